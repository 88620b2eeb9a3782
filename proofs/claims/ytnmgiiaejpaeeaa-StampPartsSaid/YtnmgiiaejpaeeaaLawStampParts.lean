/- The walk of the law StampParts: it returns true. -/
import Derived.Test.YtnmgiiaejpaeeaaStamp6
namespace Go.Proofs.Ytnmgiiaejpaeeaa
set_option linter.unusedVariables false
set_option linter.unusedSimpArgs false
open Go.RowKit
set_option maxRecDepth 100000 in
set_option maxHeartbeats 1000000 in
theorem walkStampParts (n : Int) (hn : (Lit.int .i64 n).wf = true) (m : Int) (hm : (Lit.int .i64 m).wf = true) (w : World) :
    Calls Try.prog 4 #[.int .i64 n, .int .i64 m] w fun e w' => e = .returned (.bool true) ∧ Below w.heap.size w w' := by
  clear hn hm
  by_cases h1 : partOK n
  · have hp : pairOK (n / 1048576) (n % 1048576) := by unfold partOK at h1; unfold pairOK; omega
    have c1 := fun w => part_ok n h1 w
    have c2 := fun w => pair_ok _ _ hp w
    have C1 := Lib.hid c1; have C2 := Lib.hid c2
    have b1 : 1 ≤ n / 1048576 := h1.1
    have b2 : 0 ≤ n % 1048576 := by omega
    have b3 : n % 1048576 < 1048576 := by omega
    have b4 : n / 1048576 * 1048576 + n % 1048576 = n := by omega
    have B4 := Lib.hid b4
    clear c1 c2 b4 h1 hp
    by_cases h2 : partOK m
    · have C3 := Lib.hid (fun w => part_ok m h2 w)
      have b5 : m / 1048576 * 1048576 + m % 1048576 = m := by omega
      have b6 : 0 ≤ m % 1048576 := by omega
      have b7 : m % 1048576 < 1048576 := by omega
      have tri : (n < m ∧ n / 1048576 < m / 1048576) ∨ (n < m ∧ n / 1048576 = m / 1048576 ∧ n % 1048576 < m % 1048576) ∨ (m ≤ n ∧ n / 1048576 = m / 1048576 ∧ m % 1048576 ≤ n % 1048576) ∨ (m ≤ n ∧ m / 1048576 < n / 1048576) := by omega
      clear h2 b5
      generalize n / 1048576 = G at *
      generalize n % 1048576 = Z at *
      generalize m / 1048576 = H at *
      generalize m % 1048576 = Y at *
      rcases tri with ⟨t1, t2⟩ | ⟨t1, rfl, t3⟩ | ⟨t1, rfl, t3⟩ | ⟨t1, t2⟩
      all_goals
        go_enter Try.func4, Try.ntmps4
        go_wp2_with fail
        refine (live_any w).mono ?_
        rintro e w1 ⟨rfl, hb⟩
        go_wp2_with fail
        refine (C1.out _).mono ?_
        rintro e w2 ⟨rfl, rfl⟩
        go_wp2_with fail
        refine (C2.out _).mono ?_
        rintro e w2 ⟨rfl, rfl⟩
        rw [B4.out]
        go_wp2_with fail
        refine (C3.out _).mono ?_
        rintro e w2 ⟨rfl, rfl⟩
        go_wp2
        go_ret
        exact ⟨by first | rfl | exact ret_true (by simp; omega), hb⟩
    · have C3 := Lib.hid (fun w => part_bad m h2 w)
      clear h2
      generalize n / 1048576 = G at *
      generalize n % 1048576 = Z at *
      go_enter Try.func4, Try.ntmps4
      go_wp2_with fail
      refine (live_any w).mono ?_
      rintro e w1 ⟨rfl, hb⟩
      go_wp2_with fail
      refine (C1.out _).mono ?_
      rintro e w2 ⟨rfl, rfl⟩
      go_wp2_with fail
      refine (C2.out _).mono ?_
      rintro e w2 ⟨rfl, rfl⟩
      rw [B4.out]
      go_wp2_with fail
      refine (C3.out _).mono ?_
      rintro e w2 ⟨rfl, rfl⟩
      go_wp2
      go_ret
      exact ⟨by first | rfl | exact ret_true (by simp; omega), hb⟩
  · have C1 := Lib.hid (fun w => part_bad n h1 w)
    clear h1
    go_enter Try.func4, Try.ntmps4
    go_wp2_with fail
    refine (live_any w).mono ?_
    rintro e w1 ⟨rfl, hb⟩
    go_wp2_with fail
    refine (C1.out _).mono ?_
    rintro e w2 ⟨rfl, rfl⟩
    go_wp2
    go_ret
    exact ⟨by first | rfl | exact ret_true (by simp; omega), hb⟩
end Go.Proofs.Ytnmgiiaejpaeeaa
