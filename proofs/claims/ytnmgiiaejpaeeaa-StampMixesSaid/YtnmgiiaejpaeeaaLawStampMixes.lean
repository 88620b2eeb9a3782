/- The walk of the law StampMixes: it returns true. -/
import Derived.Test.YtnmgiiaejpaeeaaLawStampTorn
namespace Go.Proofs.Ytnmgiiaejpaeeaa
set_option linter.unusedVariables false
set_option linter.unusedSimpArgs false
open Go.RowKit
theorem mix_twice (old next : List Int) (a b : Nat) (ha : a ≤ 32) (hb : b ≤ 32) (h1 : old.length = 32) (h2 : next.length = 32) :
    next.take b ++ (next.take a ++ old.drop a).drop b = next.take (max a b) ++ old.drop (max a b) := by
  have lt : (next.take a).length = a := by simp; omega
  rcases Nat.le_total a b with h | h
  · rw [Nat.max_eq_right h, List.drop_append, List.drop_eq_nil_of_le (by omega), List.nil_append, lt, List.drop_drop, show a + (b - a) = b by omega]
  · rw [Nat.max_eq_left h, List.drop_append_of_le_length (by omega), ← List.append_assoc]
    congr 1
    have : next.take b = (next.take a).take b := by rw [List.take_take, show min b a = b by omega]
    rw [this, List.take_append_drop]
set_option maxRecDepth 100000 in
set_option maxHeartbeats 4000000 in
theorem walkStampMixes (w : World) (p : Option Addr) (c : Nat) (xs : List Int) (hr : Rd .u8 w p xs) (hw : ∀ x ∈ xs, (Lit.int .u8 x).wf = true) (hc : xs.length ≤ c) (hm : c ≤ maxLen) (hy : xs.length * 1 ≤ 140737488351232)
    (q : Option Addr) (d : Nat) (ys : List Int) (hs : Rd .u8 w q ys) (hx : ∀ x ∈ ys, (Lit.int .u8 x).wf = true) (hd : ys.length ≤ d) (hn : d ≤ maxLen) (hz : ys.length * 1 ≤ 140737488351232)
    (a : Int) (ha : (Lit.int .i64 a).wf = true) (b : Int) (hb : (Lit.int .i64 b).wf = true) :
    Calls Try.prog 7 #[.slice p xs.length c, .slice q ys.length d, .int .i64 a, .int .i64 b] w fun e w' => e = .returned (.bool true) ∧ Below w.heap.size w w' := by
  have bx := isB_of_wf hw
  have by' := isB_of_wf hx
  clear ha hb hw hx hy hz
  go_enter Try.func7, Try.ntmps7
  go_wp2_with fail
  refine (live_any w).mono ?_
  rintro e w1 ⟨rfl, hb1⟩
  have hr1 := hr.below hb1
  have hs1 := hs.below hb1
  clear hr hs
  by_cases o1 : mixOK xs.length ys.length a
  · have lx : xs.length = 32 := o1.1
    have ly : ys.length = 32 := o1.2.1
    have a0 : 0 ≤ a := o1.2.2.1
    have a32 : a ≤ 32 := o1.2.2.2
    have m1 := mix_yes p q c d xs ys a w1 o1 hr1 hs1 hc hd hm hn
    rw [lx, ly] at m1
    have M1 := Lib.hid m1
    clear m1
    rw [lx] at hc ⊢; rw [ly] at hd ⊢
    go_wp2_with fail
    refine M1.out.mono ?_
    rintro e w2 ⟨x, y, rfl, hX, hy1, hy2, hb2⟩
    have lX : (ys.take a.toNat ++ xs.drop a.toNat).length = 32 := by simp; omega
    have m2 := mix_yes p q c d xs ys 0 w2 ⟨lx, ly, by omega, by omega⟩ (hr1.below hb2) (hs1.below hb2) (by omega) (by omega) hm hn
    rw [lx, ly] at m2
    simp only [Int.toNat_zero, List.take_zero, List.nil_append, List.drop_zero] at m2
    go_wp2_with fail
    refine m2.mono ?_
    clear m2
    rintro e w3 ⟨x3, y3, rfl, hX3, hy3, hy3', hb3⟩
    have m3 := mix_yes p q c d xs ys 32 w3 ⟨lx, ly, by omega, by omega⟩ ((hr1.below hb2).below hb3) ((hs1.below hb2).below hb3) (by omega) (by omega) hm hn
    rw [lx, ly] at m3
    rw [show (32 : Int).toNat = 32 from rfl, List.take_of_length_le (by omega), List.drop_eq_nil_of_le (by omega), List.append_nil] at m3
    go_wp2_with fail
    refine m3.mono ?_
    clear m3
    rintro e w4 ⟨x4, y4, rfl, hX4, hy4, hy4', hb4⟩
    have hX' := (hX.below hb3).below hb4
    have hr4 := ((hr1.below hb2).below hb3).below hb4
    have hs4 := ((hs1.below hb2).below hb3).below hb4
    have hX3' := hX3.below hb4
    have bel := bel3 (bel2 hb1 hb2) hb3 hb4
    clear hX hX3 hr1 hs1 hb1 hb2 hb3 hb4 M1 o1
    by_cases o2 : 0 ≤ b ∧ b ≤ 32
    · obtain ⟨b0, b32⟩ := o2
      have m5 := mix_yes x q y d (ys.take a.toNat ++ xs.drop a.toNat) ys b w4 ⟨lX, ly, b0, b32⟩ hX' hs4 (by omega) (by omega) hy2 hn
      rw [lX, ly, mix_twice xs ys a.toNat b.toNat (by omega) (by omega) lx ly] at m5
      go_wp2_with fail
      refine m5.mono ?_
      clear m5
      rintro e w5 ⟨x5, y5, rfl, hX5, hy5, hy5', hb5⟩
      have m6 := mix_yes p q c d xs ys (max a b) w5 ⟨lx, ly, by omega, by omega⟩ (hr4.below hb5) (hs4.below hb5) (by omega) (by omega) hm hn
      rw [lx, ly, show (max a b).toNat = max a.toNat b.toNat by omega] at m6
      go_wp2_with fail
      refine m6.mono ?_
      clear m6
      rintro e w6 ⟨x6, y6, rfl, hX6, hy6, hy6', hb6⟩
      have l5 : (ys.take (max a.toNat b.toNat) ++ xs.drop (max a.toNat b.toNat)).length = 32 := by simp; omega
      have k1 := conv_rd (c := y3) ((hX3'.below hb5).below hb6) 0
      have k2 := conv_rd (c := c) ((hr4.below hb5).below hb6) 0
      have k3 := conv_rd (c := y4) ((hX4.below hb5).below hb6) 0
      have k4 := conv_rd (c := d) ((hs4.below hb5).below hb6) 0
      have k5 := conv_rd (c := y5) (hX5.below hb6) 0
      have k6 := conv_rd (c := y6) hX6 0
      rw [lx] at k1 k2
      rw [ly] at k3 k4
      rw [l5] at k5 k6
      simp only [World.drewN_zero] at k1 k2 k3 k4 k5 k6
      have s1 := strs_eq xs
      have s2 := strs_eq ys
      have s3 := strs_eq (ys.take (max a.toNat b.toNat) ++ xs.drop (max a.toNat b.toNat))
      generalize ys.take (max a.toNat b.toNat) ++ xs.drop (max a.toNat b.toNat) = Z at *
      have bel6 := bel3 bel hb5 hb6
      clear hX5 hX6 hX4 hX3' hX' hr4 hs4 hb5 hb6 lX bx by' lx ly l5
      go_wp2
      go_ret
      exact ⟨rfl, bel6⟩
    · have m5 := mix_no x q y d (ys.take a.toNat ++ xs.drop a.toNat) ys b w4 (fun h => o2 ⟨h.2.2.1, h.2.2.2⟩) hX' hs4 (by omega) (by omega) hy2 hn
      rw [lX, ly] at m5
      have hb' : b < 0 ∨ 32 < b := by omega
      clear lX bx by' lx ly o2 hX' hX4 hX3' hr4 hs4
      go_wp2_with fail
      refine m5.mono ?_
      clear m5
      rintro e w5 ⟨x5, y5, rfl, hb5⟩
      rcases hb' with h | h
      all_goals
        go_wp2
        go_ret
        exact ⟨by first | rfl | exact ret_true (by simp; omega), bel2 bel hb5⟩
  · have M1 := Lib.hid (mix_no p q c d xs ys a w1 o1 hr1 hs1 hc hd hm hn)
    clear o1 hr1 hs1 bx by'
    go_wp2_with fail
    refine M1.out.mono ?_
    rintro e w2 ⟨x, y, rfl, hb2⟩
    go_wp2
    go_ret
    exact ⟨rfl, bel2 hb1 hb2⟩
end Go.Proofs.Ytnmgiiaejpaeeaa
