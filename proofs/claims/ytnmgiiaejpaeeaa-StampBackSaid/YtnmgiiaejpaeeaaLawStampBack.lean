/- The walk of the law StampBack: it returns true. -/
import Derived.Test.YtnmgiiaejpaeeaaStamp6
import Derived.Test.YtnmgiiaejpaeeaaRowB
import Derived.BigQuiet
import Derived.Deep.QuietTactic
import Derived.Deep.DeepCutAuto
import Derived.Shelf.Bytes.SlEqualAll
namespace Go.Proofs.Ytnmgiiaejpaeeaa
set_option linter.unusedVariables false
set_option linter.unusedSimpArgs false
open Go.RowKit
theorem conv_rd {w : World} {p : Option Addr} {c : Nat} {xs : List Int} (h : Rd .u8 w p xs) : ∀ nq, (convert 22 9 (.slice p xs.length c)).run Try.prog (w.drewN nq) = .ok (.string (strOfNums xs)) (w.drewN nq) := fun nq =>
  Lib.BytesIn.convert (h.drew nq).bytesIn rfl c 22 5 9 Try.underlying22 Try.underlying5 Try.underlying9
theorem strs_ne (xs : List Int) : (!((strOfNums xs).toList == (strOfNums xs).toList)) = false := by simp
set_option maxRecDepth 100000 in
set_option maxHeartbeats 2000000 in
theorem walkStampBack (w : World) (n : Int) (hn : (Lit.int .i64 n).wf = true) (p : Option Addr) (c : Nat) (xs : List Int) (hr : Rd .u8 w p xs) (hw : ∀ x ∈ xs, (Lit.int .u8 x).wf = true) (hc : xs.length ≤ c) (hm : c ≤ maxLen) (hy : xs.length * 1 ≤ 140737488351232)
    (g : Int) (hg : (Lit.int .i64 g).wf = true) (a : Int) (ha : (Lit.int .i64 a).wf = true) (g2 : Int) (hg2 : (Lit.int .i64 g2).wf = true) (a2 : Int) (ha2 : (Lit.int .i64 a2).wf = true) :
    Calls Try.prog 3 #[.int .i64 n, .slice p xs.length c, .int .i64 g, .int .i64 a, .int .i64 g2, .int .i64 a2] w fun e w' => e = .returned (.bool true) ∧ Below w.heap.size w w' := by
  have hb := isB_of_wf hw
  clear hn hg ha hg2 ha2 hw
  by_cases h200 : 200 < xs.length
  · go_enter Try.func3, Try.ntmps3
    go_wp2_with fail
    refine (live_any w).mono ?_
    rintro e w1 ⟨rfl, hb1⟩
    go_wp2
    go_ret
    exact ⟨rfl, hb1⟩
  have hlen : xs.length ≤ 200 := by omega
  clear h200 hy
  go_enter Try.func3, Try.ntmps3
  go_wp2_with fail
  refine (live_any w).mono ?_
  rintro e w1 ⟨rfl, hb1⟩
  have hr1 := hr.below hb1
  by_cases hs : sealOK n xs.length
  case' pos =>
    have hl := hs.2.2
    have zeros : ∀ k : Nat, k < 16 - xs.length → (pad16 xs).getD (xs.length + k) 0 = 0 := fun k hk => by
      simp [pad16, List.getD, hk]
    have reads : (∀ i, i < xs.length → (pad16 xs).getD i 0 = xs.getD i 0) := fun i hi => by
      simp [pad16, List.getD, List.getElem?_append_left hi]
    have HS := Lib.hid hs; have HZ := Lib.hid zeros; have HR := Lib.hid reads
    clear hs zeros reads
    go_wp2_with fail
    refine (seal_ok n p c xs w1 HS.out hr1 hb hc).mono ?_
    rintro e w2 ⟨q, d, rfl, hr2, hd, hdm, hb2⟩
    unfold maxLen at hdm
    go_upto_if 42 with fail
    go_cut [] (fun wx => Below w.heap.size w wx)
    case first =>
      go_wp2_with fail
      refine (open_sealed n q d xs w2 HS.out hb hr2 hd hdm).mono ?_
      rintro e w3 ⟨b, o, d2, rfl, hd2, hdm2, hcell, hb3⟩
      unfold maxLen at hdm2
      have hbel : Below w.heap.size w w3 := (hb1.trans (hb2.mono hb1.size)).trans (hb3.mono (by have := hb1.size; have := hb2.size; omega))
      have q1 : Rd .u8 w3 (some ⟨b, o, none⟩) xs := fun h0 => ⟨b, o, rfl, fun i hi => by rw [hcell i (by omega), HR.out i hi]⟩
      have k1 := conv_rd (c := d2) q1
      have k2 := conv_rd (c := c) ((hr1.below hb2).below hb3)
      have hcell2 : ∀ k : Nat, k < 16 - xs.length → w3.cell? ⟨b, o + xs.length + k, none⟩ = some (.int .u8 0) := fun k hk => by
        rw [Nat.add_assoc, hcell _ (by omega), HZ.out k hk]
      have HC := Lib.hid hcell2
      have hne := strs_ne xs
      have z1 : (xs.length : Int) ≤ (d2 : Int) := by omega
      have z2 : (xs.length : Int) ≤ 16 := by omega
      clear hcell hcell2 q1 hr2 hr1 hb2 hb3
      generalize strOfNums xs = st at *
      generalize xs.length = m at *
      have hm16 : m ≤ 16 := hl
      clear hl hr
      rcases Nat.lt_or_ge m d2 with hdm | hdm
      · have hne2 : ¬ d2 = m := by omega
        go_wp2_with fail
        go_quiet (fail)
        go_wp2_with fail
        go_loop [81] (fun i => ∃ k : Nat, k ≤ 16 - m ∧ i = .int .i64 k) (fun i => (16 - m) - (intOf i).toNat)
        case atStart => exact ⟨0, Nat.zero_le _, rfl⟩
        case round =>
          obtain ⟨k, hk, rfl⟩ := hrel
          by_cases hlt : k < 16 - m
          · have hcell := HC.out k hlt
            go_wp2
            go_round
            case rel => exact ⟨k + 1, by omega, by go_num⟩
            case measure => simp [intOf]; omega
          · go_wp2_with fail
            go_meet
            exact Go.below_drewN hbel _
      · obtain rfl : d2 = 16 := by omega
        obtain rfl : m = 16 := by omega
        go_wp2_with fail
        go_quiet (fail)
        go_wp2_with fail
        refine wp_loop_rounds 1 ?_
        rw [rounds_succ]
        go_wp2_with fail
        go_meet
        exact Go.below_drewN hbel _
  case' neg =>
    have HS := Lib.hid hs
    clear hs
    go_wp2_with fail
    refine (seal_bad n p c xs w1 HS.out hr1 hb hc hm).mono ?_
    rintro e w2 ⟨q, d, k, rfl, hk, hb2⟩
    go_upto_if 42 with fail
    go_cut [] (fun wx => Below w.heap.size w wx)
    case first =>
      go_wp2_with fail
      go_meet
      exact hb1.trans (hb2.mono hb1.size)
  all_goals
    clear hr1 hr hb hc hm
    by_cases P1 : pairOK g a
    · by_cases P2 : pairOK g2 a2
      · obtain ⟨X, hX⟩ : ∃ X, X = g * 1048576 + a := ⟨_, rfl⟩
        obtain ⟨Y, hY⟩ : ∃ Y, Y = g2 * 1048576 + a2 := ⟨_, rfl⟩
        have c1 : ∀ w, Calls Try.prog 24 #[.int .i64 g, .int .i64 a] w fun e w' => e = .returned (.tuple #[.int .i64 X, .int .i64 0]) ∧ w = w' := fun w => by rw [hX]; exact pair_ok g a P1 w
        have c2 : ∀ w, Calls Try.prog 24 #[.int .i64 g2, .int .i64 a2] w fun e w' => e = .returned (.tuple #[.int .i64 Y, .int .i64 0]) ∧ w = w' := fun w => by rw [hY]; exact pair_ok g2 a2 P2 w
        have c3 : ∀ w, Calls Try.prog 25 #[.int .i64 X] w fun e w' => e = .returned (.tuple #[.int .i64 g, .int .i64 a, .int .i64 0]) ∧ w = w' := fun w => by
          have h := part_ok X (by unfold pairOK at P1; unfold partOK; omega) w
          rwa [show X / 1048576 = g by unfold pairOK at P1; omega, show X % 1048576 = a by unfold pairOK at P1; omega] at h
        have ways : (g = g2 ∧ a = a2 ∧ X = Y) ∨ (g < g2 ∧ X < Y) ∨ (g2 < g ∧ Y < X) ∨ (g = g2 ∧ a < a2 ∧ X < Y) ∨ (g = g2 ∧ a2 < a ∧ Y < X) := by unfold pairOK at P1 P2; omega
        have hX62 : X ≤ 4611686018427387904 := by unfold pairOK at P1; omega
        have C1 := Lib.hid c1; have C2 := Lib.hid c2; have C3 := Lib.hid c3
        clear c1 c2 c3 hX hY P1 P2
        rcases ways with ⟨rfl, rfl, rfl⟩ | ⟨t1, t2⟩ | ⟨t1, t2⟩ | ⟨rfl, t1, t2⟩ | ⟨rfl, t1, t2⟩
        case' inr.inl => have f1 : (X == Y) = false := by rw [beq_eq_false_iff_ne]; omega
        case' inr.inl => have f2 : (g == g2) = false := by rw [beq_eq_false_iff_ne]; omega
        case' inr.inr.inl => have f1 : (X == Y) = false := by rw [beq_eq_false_iff_ne]; omega
        case' inr.inr.inl => have f2 : (g == g2) = false := by rw [beq_eq_false_iff_ne]; omega
        case' inr.inr.inr.inl => have f1 : (X == Y) = false := by rw [beq_eq_false_iff_ne]; omega
        case' inr.inr.inr.inl => have f2 : (a == a2) = false := by rw [beq_eq_false_iff_ne]; omega
        case' inr.inr.inr.inr => have f1 : (X == Y) = false := by rw [beq_eq_false_iff_ne]; omega
        case' inr.inr.inr.inr => have f2 : (a == a2) = false := by rw [beq_eq_false_iff_ne]; omega
        all_goals
          go_wp2_with fail
          refine (C1.out _).mono ?_
          rintro e w5 ⟨rfl, rfl⟩
          go_wp2_with fail
          refine (C2.out _).mono ?_
          rintro e w5 ⟨rfl, rfl⟩
          go_wp2_with fail
          refine (C3.out _).mono ?_
          rintro e w5 ⟨rfl, rfl⟩
          go_wp2
          go_ret
          exact ⟨by first | rfl | exact ret_true (by simp; omega), hcut⟩
      · have C1 := Lib.hid (fun w => pair_ok g a P1 w); have C2 := Lib.hid (fun w => pair_bad g2 a2 P2 w)
        clear P1 P2
        go_wp2_with fail
        refine (C1.out _).mono ?_
        rintro e w5 ⟨rfl, rfl⟩
        go_wp2_with fail
        refine (C2.out _).mono ?_
        rintro e w5 ⟨rfl, rfl⟩
        go_wp2
        go_ret
        exact ⟨rfl, hcut⟩
    · have C1 := Lib.hid (fun w => pair_bad g a P1 w); have C2 := Lib.hid (fun w => pair_any g2 a2 w)
      clear P1
      generalize pairV g2 a2 = V at *
      generalize pairE g2 a2 = V2 at *
      go_wp2_with fail
      refine (C1.out _).mono ?_
      rintro e w5 ⟨rfl, rfl⟩
      go_wp2_with fail
      refine (C2.out _).mono ?_
      rintro e w5 ⟨rfl, rfl⟩
      go_wp2
      go_ret
      exact ⟨rfl, hcut⟩
end Go.Proofs.Ytnmgiiaejpaeeaa
