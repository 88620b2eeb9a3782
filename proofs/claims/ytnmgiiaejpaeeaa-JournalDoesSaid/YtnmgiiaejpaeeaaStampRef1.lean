/- Contracts of the references of package stamp: low, Seal, Pair, Part. -/
import Derived.Test.YtnmgiiaejpaeeaaStamp6
import Derived.Test.YtnmgiiaejpaeeaaApp
namespace Go.Proofs.Ytnmgiiaejpaeeaa
set_option linter.unusedVariables false
set_option linter.unusedSimpArgs false
open Go.RowKit

theorem info_u8 : (Try.prog.info? 5).map (fun i => (i.zero, i.size, i.bytes)) = some (some (.int .u8 0), 1, 1) := by kernel_rfl
theorem ref_pair_any (g a : Int) (w : World) :
    Calls Try.prog 30 #[.int .i64 g, .int .i64 a] w fun e w' => e = .returned (.tuple #[.int .i64 (pairV g a), .int .i64 (pairE g a)]) ∧ w = w' := by
  by_cases h : pairOK g a
  · have e1 : pairE g a = 0 := if_pos h
    have e2 : pairV g a = g * 1048576 + a := if_pos h
    rw [e1, e2]; clear e1 e2
    obtain ⟨h1, h2, h3, h4⟩ := h
    go_enter Try.func30, Try.ntmps30
    go_wp2
    go_ret2
    exact ⟨rfl, rfl⟩
  · have e1 : pairE g a = 1 := if_neg h
    have e2 : pairV g a = 0 := if_neg h
    rw [e1, e2]; clear e1 e2
    have h5 : g < 1 ∨ 1099511627776 < g ∨ a < 0 ∨ 1048576 ≤ a := by unfold pairOK at h; omega
    clear h
    rcases h5 with h | h | h | h
    all_goals
      go_enter Try.func30, Try.ntmps30
      go_wp2
      all_goals
        go_ret2
        exact ⟨rfl, rfl⟩
theorem ref_part_any (s : Int) (h1 : -9223372036854775808 ≤ s) (h2 : s ≤ 9223372036854775807) (w : World) :
    Calls Try.prog 31 #[.int .i64 s] w fun e w' => e = .returned (.tuple #[.int .i64 (partG s), .int .i64 (partA s), .int .i64 (partE s)]) ∧ w = w' := by
  by_cases h : 1 ≤ s / 1048576 ∧ s / 1048576 ≤ 1099511627776
  · have e1 : partE s = 0 := if_pos h
    have e2 : partG s = s / 1048576 := if_pos h
    have e3 : partA s = s % 1048576 := if_pos h
    rw [e1, e2, e3]; clear e1 e2 e3
    obtain ⟨h3, h4⟩ := h
    have h5 : 1 ≤ s := by omega
    go_enter Try.func31, Try.ntmps31
    go_wp2
    go_ret3
    exact ⟨rfl, rfl⟩
  · have e1 : partE s = 1 := if_neg h
    have e2 : partG s = 0 := if_neg h
    have e3 : partA s = 0 := if_neg h
    rw [e1, e2, e3]; clear e1 e2 e3
    by_cases h5 : s < 1
    · clear h
      go_enter Try.func31, Try.ntmps31
      go_wp2
      all_goals
        go_ret3
        exact ⟨rfl, rfl⟩
    · have h6 : s / 1048576 < 1 ∨ 1099511627776 < s / 1048576 := by omega
      clear h
      rcases h6 with h | h
      all_goals
        go_enter Try.func31, Try.ntmps31
        go_wp2
        all_goals
          go_ret3
          exact ⟨rfl, rfl⟩

/-- A number's lowest octets. -/
def digs : Nat → Int → List Int
  | 0, _ => []
  | k + 1, n => n % 256 :: digs k (n / 256)
theorem digs8 (n : Int) : digs 8 n = le8 n := by
  simp only [digs, le8, List.cons.injEq, and_true, true_and]
  omega
theorem digs_left {k : Nat} (hk : k < 8) (n : Int) : digs (8 - k) n = n % 256 :: digs (8 - (k + 1)) (n / 256) := by
  rw [show 8 - k = (8 - (k + 1)) + 1 by omega]; rfl
set_option maxRecDepth 100000 in
set_option maxHeartbeats 2000000 in
theorem low_any (n : Int) (w : World) (h0 : 0 ≤ n) (h1 : n ≤ 9223372036854775807) :
    Calls Try.prog 68 #[.int .i64 n] w fun e w' => ∃ v, e = .returned v ∧ Own .u8 5 w' w.heap.size v (le8 n) ∧ Below w.heap.size w w' := by
  rw [← digs8]
  obtain ⟨D, hD⟩ : ∃ D, D = digs 8 n := ⟨_, rfl⟩
  rw [← hD]
  have HD := Lib.hid hD
  clear hD
  obtain ⟨B, hB⟩ : ∃ B, B = w.heap.size := ⟨_, rfl⟩
  rw [← hB]
  have HB := Lib.hid hB
  clear hB
  go_enter Try.func68, Try.ntmps68
  go_wp2
  go_loopw [3, 0, 4] (fun v t i wr => ∃ (k : Nat) (cur : Int) (acc : List Int), k ≤ 8 ∧ i = .int .i64 k ∧ t = .int .i64 cur ∧ 0 ≤ cur ∧ cur ≤ 9223372036854775807 ∧ Own .u8 5 wr B v acc ∧ acc.length = k ∧ Hid (acc ++ digs (8 - k) cur = D) ∧ Below B w wr ∧ B ≤ wr.heap.size) (fun _ _ i _ => 8 - (intOf i).toNat)
  case atStart => exact ⟨0, n, [], Nat.zero_le _, rfl, rfl, h0, h1, Own.nil _ _ _ _, rfl, HD.out.symm, Below.refl _ _, by rw [HB.out]; exact Nat.le_refl _⟩
  case round =>
    obtain ⟨k, cur, acc, hk, rfl, rfl, hc0, hc1, hown, hl, happ, hbel, hBw⟩ := hrel
    have HL := Lib.hid hl
    clear hl
    by_cases hlt : k < 8
    · go_wp2_with (refine wpList_append_rd rfl (.tmp 6) (.tmp 10) 22 rfl 5 .u8 1 Try.underlying22 info_u8 (by decide) B _ rfl acc (hown.alloc _) (some ⟨wr.heap.size, 0, none⟩) 1 [cur % 256] rfl (rd_lit wr _) (by rw [HL.out]; simp; omega) (by simp; omega) ?_; intro v1 w1 hown1 hg1; have hbel1 := below_app (hbel.alloc hBw _) (hown.alloc _) hg1 (by simp; omega); have hBw1 : B ≤ w1.heap.size := (by have := hg1.size; simp at this; omega); clear hown hg1 hbel)
      go_roundw
      case rel => exact ⟨k + 1, cur / 256, acc ++ [cur % 256], by omega, by go_num, rfl, by omega, by omega, hown1, by rw [List.length_append, HL.out]; rfl, by have := happ.out; rw [digs_left hlt] at this; show _ = _; rw [List.append_assoc]; exact this, hbel1, hBw1⟩
      case measure => simp [intOf]; omega
    · obtain rfl : k = 8 := by omega
      go_wp2
      go_ret
      have h := happ.out
      simp only [Nat.sub_self, digs, List.append_nil] at h
      subst h
      exact ⟨_, rfl, hown, hbel⟩

def lenOf : Value → Nat
  | .slice _ n _ => n
  | _ => 0
set_option maxRecDepth 100000 in
set_option maxHeartbeats 2000000 in
theorem ref_seal_ok (n : Int) (p : Option Addr) (c : Nat) (xs : List Int) (w : World) (h1 : 1 ≤ n) (h2 : n ≤ 4611686018427387904) (h3 : xs.length ≤ 16) (hr : Rd .u8 w p xs) (hc : xs.length ≤ c) :
    Calls Try.prog 27 #[.int .i64 n, .slice p xs.length c] w fun e w' => ∃ v, e = .returned (.tuple #[v, .int .i64 0]) ∧ Own .u8 5 w' w.heap.size v (sealB n xs) ∧ Below w.heap.size w w' := by
  obtain ⟨B, hB⟩ : ∃ B, B = w.heap.size := ⟨_, rfl⟩
  rw [← hB]
  have HB := Lib.hid hB
  have L8 : (le8 n).length = 8 := rfl
  clear hB
  go_enter Try.func27, Try.ntmps27
  go_wp2_with fail
  refine (low_any n w (by omega) (by omega)).mono ?_
  rintro e w1 ⟨v1, rfl, ho1, hb1⟩
  rw [← HB.out] at ho1 hb1
  have hr1 := hr.below (by rw [← HB.out]; exact hb1)
  have hB1 : B ≤ w1.heap.size := by rw [HB.out]; have := hb1.size; exact this
  go_wp2_with (refine wpList_append_rd rfl (.tmp 17) (.tmp 18) 22 rfl 5 .u8 1 Try.underlying22 info_u8 (by decide) B _ rfl (le8 n) ho1 p c xs rfl hr1 (by rw [L8]; omega) hB1 ?_; intro v2 w2 ho2 hg2; have hb2 := below_app hb1 ho1 hg2 hB1; have hB2 : B ≤ w2.heap.size := Nat.le_trans hB1 hg2.size; clear ho1 hg2 hr1 hb1)
  have L1 : Hid ((le8 n ++ xs).length = 8 + xs.length) := by show _ = _; simp [L8]
  go_loopw [6] (fun v wr => ∃ (j : Nat) (l : List Int), l.length + j = 24 ∧ Hid (l ++ List.replicate j 0 = le8 n ++ pad16 xs) ∧ Own .u8 5 wr B v l ∧ Below B w wr ∧ B ≤ wr.heap.size) (fun v _ => 24 - lenOf v)
  case atStart => exact ⟨16 - xs.length, le8 n ++ xs, by rw [L1.out]; omega, by show _ = _; rw [List.append_assoc]; rfl, ho2, hb2, hB2⟩
  case round =>
    obtain ⟨j, l, hl, he, hown, hbel, hBw⟩ := hrel
    obtain ⟨q, d, rfl, _, _, _⟩ := hown.rd
    by_cases hj : l.length < 24
    · go_wp2_with (refine wpList_append_rd rfl (.tmp 23) (.tmp 24) 22 rfl 5 .u8 1 Try.underlying22 info_u8 (by decide) B _ rfl l (hown.alloc _) (some ⟨wr.heap.size, 0, none⟩) 1 [0] rfl (rd_lit wr _) (by simp; omega) (by simp; omega) ?_; intro v3 w3 hown3 hg3; have hbel3 := below_app (hbel.alloc hBw _) (hown.alloc _) hg3 (by simp; omega); have hBw3 : B ≤ w3.heap.size := (by have := hg3.size; simp at this; omega); clear hg3 hbel)
      go_roundw
      case rel => exact ⟨j - 1, l ++ [0], by simp; omega, by have := he.out; rw [show j = (j - 1) + 1 by omega, List.replicate_succ] at this; show _ = _; rw [List.append_assoc]; exact this, hown3, hbel3, hBw3⟩
      case measure =>
        obtain ⟨q3, d3, rfl, _⟩ := hown3.rd
        simp [lenOf]; omega
    · have hj0 : j = 0 := by omega
      have h24 : l.length = 24 := by omega
      have hl2 : l = le8 n ++ pad16 xs := by have := he.out; rw [hj0] at this; simpa using this
      have H24 := Lib.hid h24; have HL2 := Lib.hid hl2
      clear hj0 h24 hl2 he
      go_wp2_with fail
      refine (low_any n wr (by omega) (by omega)).mono ?_
      rintro e w4 ⟨v4, rfl, ho4, hb4⟩
      have hown4 := hown.below hb4
      have hB4 : B ≤ w4.heap.size := Nat.le_trans hBw hb4.size
      have hbel4 := hbel.trans (hb4.mono hBw)
      obtain ⟨p4, c4, rfl, _, _, hr4⟩ := ho4.rd
      go_wp2_with (refine wpList_append_rd rfl (.tmp 26) (.tmp 28) 22 rfl 5 .u8 1 Try.underlying22 info_u8 (by decide) B _ rfl l hown4 p4 c4 (le8 n) rfl hr4 (by rw [L8, H24.out]; omega) hB4 ?_; intro v5 w5 ho5 hg5; have hb5 := below_app hbel4 hown4 hg5 hB4; clear hg5 hown4 hown hr4 ho4)
      go_ret2
      refine ⟨_, rfl, ?_, hb5⟩
      rw [HL2.out, List.append_assoc] at ho5
      exact ho5
end Go.Proofs.Ytnmgiiaejpaeeaa
