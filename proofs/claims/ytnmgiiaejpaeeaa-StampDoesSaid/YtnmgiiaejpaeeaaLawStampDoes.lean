/- The walk of the law StampDoes: it returns true. -/
import Derived.Test.YtnmgiiaejpaeeaaLawStampTorn
import Derived.Test.YtnmgiiaejpaeeaaStampRef3
namespace Go.Proofs.Ytnmgiiaejpaeeaa
set_option linter.unusedVariables false
set_option linter.unusedSimpArgs false
open Go.RowKit
theorem same_self (p q : Option Addr) (c d : Nat) (xs : List Int) (w : World) (hx : Rd .u8 w p xs) (hy : Rd .u8 w q xs) :
    Calls Try.prog 32 #[.slice p xs.length c, .slice q xs.length d] w fun e w' => e = .returned (.bool true) ∧ w = w' := by
  have k1 := conv_rd (c := c) hx 0
  have k2 := conv_rd (c := d) hy 0
  simp only [World.drewN_zero] at k1 k2
  have s := strs_eq xs
  generalize strOfNums xs = S at *
  go_enter Try.func32, Try.ntmps32
  go_wp2
  go_ret
  exact ⟨rfl, rfl⟩
theorem Below.step {w w1 w2 : World} (h1 : Below w.heap.size w w1) (h2 : Below w1.heap.size w1 w2) : Below w.heap.size w w2 := bel2 h1 h2
set_option maxRecDepth 100000 in
set_option maxHeartbeats 8000000 in
theorem walkStampDoes (w : World) (n : Int) (hn : (Lit.int .i64 n).wf = true)
    (p : Option Addr) (c : Nat) (xs : List Int) (hr : Rd .u8 w p xs) (hw : ∀ x ∈ xs, (Lit.int .u8 x).wf = true) (hc : xs.length ≤ c) (hm : c ≤ maxLen) (hy : xs.length * 1 ≤ 140737488351232)
    (q : Option Addr) (d : Nat) (ys : List Int) (hs : Rd .u8 w q ys) (hx : ∀ x ∈ ys, (Lit.int .u8 x).wf = true) (hd : ys.length ≤ d) (hnd : d ≤ maxLen) (hz : ys.length * 1 ≤ 140737488351232)
    (p3 : Option Addr) (c3 : Nat) (zs : List Int) (ht : Rd .u8 w p3 zs) (hx3 : ∀ x ∈ zs, (Lit.int .u8 x).wf = true) (hd3 : zs.length ≤ c3) (hn3 : c3 ≤ maxLen) (hz3 : zs.length * 1 ≤ 140737488351232)
    (many : Int) (hmany : (Lit.int .i64 many).wf = true) (a : Int) (ha : (Lit.int .i64 a).wf = true) (b : Int) (hb : (Lit.int .i64 b).wf = true) :
    Calls Try.prog 8 #[.int .i64 n, .slice p xs.length c, .slice q ys.length d, .slice p3 zs.length c3, .int .i64 many, .int .i64 a, .int .i64 b] w fun e w' => e = .returned (.bool true) ∧ Below w.heap.size w w' := by
  have bx := isB_of_wf hw
  have by' := isB_of_wf hx
  have hn1 : -9223372036854775808 ≤ n ∧ n ≤ 9223372036854775807 := by simp [Lit.wf, IntKind.min, IntKind.max, IntKind.signed, IntKind.bits] at hn; omega
  clear ha hb hw hx hx3 hmany hn
  by_cases early : 200 < xs.length ∨ (xs.length ≤ 200 ∧ 200 < ys.length) ∨ (xs.length ≤ 200 ∧ ys.length ≤ 200 ∧ 200 < zs.length)
  · rcases early with h | ⟨h, h'⟩ | ⟨h, h', h''⟩
    all_goals
      go_enter Try.func8, Try.ntmps8
      go_wp2_with fail
      refine (live_any w).mono ?_
      rintro e w1 ⟨rfl, hb1⟩
      go_wp2
      go_ret
      exact ⟨rfl, hb1⟩
  have l1 : xs.length ≤ 200 := by omega
  have l2 : ys.length ≤ 200 := by omega
  have l3 : zs.length ≤ 200 := by omega
  clear early hy hz hz3
  go_enter Try.func8, Try.ntmps8
  go_wp2_with fail
  refine (live_any w).mono ?_
  rintro e w1 ⟨rfl, hb1⟩
  have ky := conv_rd (c := d) (hs.below hb1) 0
  have sy := strs_eq ys
  have KY := @conv_rd
  simp only [World.drewN_zero] at ky
  have kf : ∀ wr, Below w.heap.size w wr → (convert 22 9 (.slice q ys.length d)).run Try.prog wr = .ok (.string (strOfNums ys)) wr := fun wr h => by
    have := conv_rd (c := d) (hs.below h) 0
    simpa only [World.drewN_zero] using this
  have KF := Lib.hid kf
  clear KY kf
  generalize strOfNums ys = SY at *
  go_wp2_with fail
  refine (seal_any n p c xs w1 (hr.below hb1) bx hc (by simp only [maxLen] at hm; omega)).mono ?_
  rintro e w2 ⟨v2, rfl, f2, hb2⟩
  have B2 := bel2 hb1 hb2
  clear hb1 hb2 ky
  go_wp2_with fail
  refine (ref_seal_any n p c xs w2 (hr.below B2) hc (by simpa only [maxLen] using hm)).mono ?_
  rintro e w3 ⟨v3, rfl, f3, hb3⟩
  have B3 := bel2 B2 hb3
  have f2 := f2.below hb3
  obtain ⟨p2, c2, rfl, e2, m2, r2⟩ := f2.rd
  obtain ⟨p4, c4, rfl, e4, m4, r4⟩ := f3.rd
  clear hb3 f2 f3 B2
  generalize sealR n xs = Y1 at *
  generalize sealE n xs.length = E1 at *
  go_wp2_with fail
  refine (open_any q d ys w3 (hs.below B3) by' hd (by simpa only [maxLen] using hnd)).mono ?_
  rintro e w4 ⟨v4, rfl, f4, hb4⟩
  have B4 := bel2 B3 hb4
  have r2 := r2.below hb4
  have r4 := r4.below hb4
  have f4 := f4.base B3.size
  clear hb4 B3
  go_wp2_with fail
  refine (ref_open_any q d ys w4 (hs.below B4) by' hd (by simpa only [maxLen] using hnd)).mono ?_
  rintro e w5 ⟨v5, rfl, f5, hb5⟩
  have B5 := bel2 B4 hb5
  have r2 := r2.below hb5
  have r4 := r4.below hb5
  have f4 := f4.below hb5
  obtain ⟨p5, c5, rfl, e5, m5, z5, r5⟩ := f4.cells
  obtain ⟨p6, c6, rfl, e6, m6, r6⟩ := f5.rd
  clear hb5 B4 f4 f5
  generalize openP ys = Y2 at *
  generalize openE ys = E2 at *
  generalize openN ys = N2 at *
  go_wp2_with fail
  refine (mix_any q p3 d c3 ys zs many w5 (hs.below B5) (ht.below B5) hd hd3 (by simpa only [maxLen] using hnd) (by simpa only [maxLen] using hn3)).mono ?_
  rintro e w6 ⟨v6, rfl, f6, hb6⟩
  have B6 := bel2 B5 hb6
  have r2 := r2.below hb6
  have r4 := r4.below hb6
  have r5 := r5.below hb6
  have z5 := z5.below hb6
  have r6 := r6.below hb6
  have f6 := f6.fr.base B5.size
  clear hb6 B5
  go_wp2_with fail
  refine (ref_mix_any q p3 d c3 ys zs many w6 (hs.below B6) (ht.below B6) hd hd3 (by simpa only [maxLen] using hnd) (by simpa only [maxLen] using hn3)).mono ?_
  rintro e w7 ⟨v7, rfl, f7, hb7⟩
  have B7 := bel2 B6 hb7
  have r2 := r2.below hb7
  have r4 := r4.below hb7
  have r5 := r5.below hb7
  have z5 := z5.below hb7
  have r6 := r6.below hb7
  have f6 := f6.below hb7
  obtain ⟨p7, c7, rfl, e7, m7, z7, r7⟩ := f6.cells
  obtain ⟨p8, c8, rfl, e8, m8, r8⟩ := f7.fr.rd
  clear hb7 B6 f6 f7
  generalize mixB ys zs many = Y3 at *
  generalize mixE ys zs many = E3 at *
  clear hr hs ht bx by'
  go_wp2_with fail
  refine (pair_any a b w7).mono ?_
  rintro e w7' ⟨rfl, rfl⟩
  go_wp2_with fail
  refine (ref_pair_any a b w7).mono ?_
  rintro e w7' ⟨rfl, rfl⟩
  go_wp2_with fail
  refine (part_any n w7).mono ?_
  rintro e w7' ⟨rfl, rfl⟩
  go_wp2_with fail
  refine (ref_part_any n hn1.1 hn1.2 w7).mono ?_
  rintro e w7' ⟨rfl, rfl⟩
  generalize pairV a b = V4 at *
  generalize pairE a b = E4 at *
  generalize partG n = G5 at *
  generalize partA n = A5 at *
  generalize partE n = E5 at *
  simp only [maxLen] at m2 m4 m5 m6 m7 m8
  go_wp2_with fail
  refine (same_self p2 p4 c2 c4 Y1 w7 r2 r4).mono ?_
  rintro e w7' ⟨rfl, rfl⟩
  go_wp2_with fail
  refine (same_self p5 p6 c5 c6 Y2 w7 r5 r6).mono ?_
  rintro e w7' ⟨rfl, rfl⟩
  go_wp2_with fail
  refine (same_self p7 p8 c7 c8 Y3 w7 r7 r8).mono ?_
  rintro e w7' ⟨rfl, rfl⟩
  clear r2 r4 r5 r6 r7 r8
  generalize hT : Y3.length = T at *
  generalize hR : Y2.length = R at *
  clear hT hR
  go_wp2_with fail
  go_loopw [185] (fun i wr => ∃ k : Nat, k ≤ R ∧ i = .int .i64 k ∧ Cells .u8 w.heap.size wr p5 R ∧ Cells .u8 w.heap.size wr p7 T ∧ Below w.heap.size w wr) (fun i _ => R - (intOf i).toNat)
  case atStart => exact ⟨0, Nat.zero_le _, rfl, z5, z7, B7⟩
  case round =>
    obtain ⟨k, hk, rfl, y5, y7, hB⟩ := hrel
    by_cases hlt : k < R
    · obtain ⟨g, o, rfl, hg, hcs⟩ := y5 (by omega)
      obtain ⟨⟨m0, hm0⟩, hf0⟩ := hcs k hlt
      go_wp2_with fail
      go_roundw
      case rel => exact ⟨k + 1, hlt, by go_num, y5.set _ _, y7.set _ _, hB.setCell hg _⟩
      case measure => simp [intOf]; omega
    · obtain rfl : k = R := by omega
      go_wp2_with fail
      go_loopw [197] (fun i wr => ∃ k : Nat, k ≤ T ∧ i = .int .i64 k ∧ Cells .u8 w.heap.size wr p7 T ∧ Below w.heap.size w wr) (fun i _ => T - (intOf i).toNat)
      case atStart => exact ⟨0, Nat.zero_le _, rfl, y7, hB⟩
      case round =>
        obtain ⟨k, hk, rfl, y7, hB⟩ := hrel
        by_cases hlt : k < T
        · obtain ⟨g, o, rfl, hg, hcs⟩ := y7 (by omega)
          obtain ⟨⟨m0, hm0⟩, hf0⟩ := hcs k hlt
          go_wp2_with fail
          go_roundw
          case rel => exact ⟨k + 1, hlt, by go_num, y7.set _ _, hB.setCell hg _⟩
          case measure => simp [intOf]; omega
        · obtain rfl : k = T := by omega
          have kz := KF.out wr hB
          clear y7
          go_wp2
          go_ret
          exact ⟨rfl, hB⟩
end Go.Proofs.Ytnmgiiaejpaeeaa
