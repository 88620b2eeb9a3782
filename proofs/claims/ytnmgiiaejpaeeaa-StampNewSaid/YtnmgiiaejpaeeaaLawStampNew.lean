/- The walk of the law StampNew: it returns true. -/
import Derived.Test.YtnmgiiaejpaeeaaLawStampTorn
namespace Go.Proofs.Ytnmgiiaejpaeeaa
set_option linter.unusedVariables false
set_option linter.unusedSimpArgs false
open Go.RowKit
theorem Rd.end_ {k : IntKind} {w : World} {p : Option Addr} {xs : List Int} (h : Rd k w p xs) (j : Nat) (hj : j < xs.length) : ∃ b o, p = some ⟨b, o, none⟩ ∧ Rd k w (some ⟨b, o + j, none⟩) (xs.drop j) := by
  obtain ⟨b, o, rfl, hc⟩ := h (by omega)
  exact ⟨b, o, rfl, Rd.part hc j⟩
set_option maxRecDepth 100000 in
set_option maxHeartbeats 4000000 in
theorem walkStampNew (w : World) (p : Option Addr) (c : Nat) (xs : List Int) (hr : Rd .u8 w p xs) (hw : ∀ x ∈ xs, (Lit.int .u8 x).wf = true) (hc : xs.length ≤ c) (hm : c ≤ maxLen) (hy : xs.length * 1 ≤ 140737488351232)
    (n : Int) (hn0 : (Lit.int .i64 n).wf = true)
    (q : Option Addr) (d : Nat) (ys : List Int) (hs : Rd .u8 w q ys) (hx : ∀ x ∈ ys, (Lit.int .u8 x).wf = true) (hd : ys.length ≤ d) (hn : d ≤ maxLen) (hz : ys.length * 1 ≤ 140737488351232)
    (many : Int) (hmany : (Lit.int .i64 many).wf = true) :
    Calls Try.prog 6 #[.slice p xs.length c, .int .i64 n, .slice q ys.length d, .int .i64 many] w fun e w' => e = .returned (.bool true) ∧ Below w.heap.size w w' := by
  have bx := isB_of_wf hw
  have by' := isB_of_wf hx
  clear hn0 hw hx hmany
  by_cases early : 200 < xs.length ∨ (xs.length ≤ 200 ∧ 200 < ys.length)
  · rcases early with h | ⟨h, h'⟩
    all_goals
      go_enter Try.func6, Try.ntmps6
      go_wp2_with fail
      refine (live_any w).mono ?_
      rintro e w1 ⟨rfl, hb1⟩
      go_wp2
      go_ret
      exact ⟨rfl, hb1⟩
  have l1 : xs.length ≤ 200 := by omega
  have l2 : ys.length ≤ 200 := by omega
  clear early hy hz
  go_enter Try.func6, Try.ntmps6
  go_wp2_with fail
  refine (live_any w).mono ?_
  rintro e w1 ⟨rfl, hb1⟩
  have hr1 := hr.below hb1
  have hs1 := hs.below hb1
  clear hr hs
  by_cases o1 : sealOK n ys.length
  · have O1 := Lib.hid o1
    have m1 := o1.2.2
    clear o1
    go_wp2_with fail
    refine (seal_ok n q d ys w1 O1.out hs1 by' hd).mono ?_
    rintro e w2 ⟨u, cu, rfl, hu, hcu, hmu, hb2⟩
    have hr2 := hr1.below hb2
    have hs2 := hs1.below hb2
    have bel := bel2 hb1 hb2
    clear hr1 hs1 hb1 hb2
    by_cases o3 : mixOK xs.length 32 many
    · have hmix := mix_yes p u c cu xs (sealB n ys) many w2 (by rw [sealB_length n m1]; exact o3) hr2 hu hc (by rw [sealB_length n m1]; exact hcu) hm hmu
      rw [sealB_length n m1] at hmix
      have lx : xs.length = 32 := o3.1
      have lm : many.toNat ≤ 32 := by unfold mixOK at o3; omega
      obtain ⟨Z, hZ⟩ : ∃ Z, Z = (sealB n ys).take many.toNat ++ xs.drop many.toNat := ⟨_, rfl⟩
      have lZ : Z.length = 32 := by rw [hZ]; have := sealB_length n m1; simp; omega
      have bZ : IsB Z := by
        rw [hZ]
        exact IsB.append (fun x hx => sealB_isB n by' x (List.mem_of_mem_take hx)) (fun x hx => bx x (List.mem_of_mem_drop hx))
      have key : openE Z = 0 → un8 Z = n → xs.drop 24 ≠ le8 n → Z = sealB n ys := by
        rw [hZ]; exact new_ways lm O1.out lx bx by'
      rw [← hZ, lx] at hmix
      have HM := Lib.hid hmix; have HL := Lib.hid lZ; have KEY := Lib.hid key; have LX := Lib.hid lx
      have ld : (xs.drop 24).length = 8 := by simp [lx]
      have b24 : IsB (xs.drop 24) := fun x hx => bx x (List.mem_of_mem_drop hx)
      obtain ⟨g, o, rfl, r24⟩ := hr2.end_ 24 (by omega)
      rw [lx] at hc ⊢
      have LD := Lib.hid ld
      clear hmix hZ o3 lZ key lx ld
      go_wp2_with fail
      refine HM.out.mono ?_
      rintro e w4 ⟨z, cz, rfl, hz, hcz, hmz, hb4⟩
      have hu4 := hu.below hb4
      have hr4 := r24.below hb4
      have hs4 := hs2.below hb4
      obtain ⟨gu, ou, rfl, ru⟩ := hu4.end_ 24 (by rw [sealB_length n m1]; omega)
      rw [drop24_seal n ys m1] at ru
      have bel4 := bel2 bel hb4
      have k1 := conv_rd (c := c - 24) hr4
      have k2 := conv_rd (c := cu - 24) ru
      rw [LD.out] at k1
      rw [le8_length] at k2
      have c24 : ¬ c = 24 := by omega
      have cu24 : ¬ cu = 24 := by omega
      have n24 : (24 : Int) ≤ (c : Int) := by omega
      have nu24 : (24 : Int) ≤ (cu : Int) := by omega
      clear hu hr2 r24 hs2 bel hb4 HM hr4 ru
      unfold maxLen at hmu hmz hm
      by_cases t0 : xs.drop 24 = le8 n
      · have s0 : ((strOfNums (xs.drop 24)).toList == (strOfNums (le8 n)).toList) = true := by rw [strs_beq b24 (le8_isB n)]; exact decide_eq_true t0
        clear t0
        go_wp2_with fail
        go_quiet (fail)
        go_wp2
        go_ret
        exact ⟨rfl, Go.below_drewN bel4 _⟩
      · have s0 : ((strOfNums (xs.drop 24)).toList == (strOfNums (le8 n)).toList) = false := by rw [strs_beq b24 (le8_isB n)]; exact decide_eq_false t0
        have T0 := Lib.hid t0
        clear t0
        go_wp2_with fail
        go_quiet (fail)
        clear k1 k2 s0
        go_wp2_with fail
        by_cases t1 : openE Z = 0 ∧ un8 Z = n
        · obtain rfl : Z = sealB n ys := KEY.out t1.1 t1.2 T0.out
          clear t1
          refine (open_sealed n z cz ys _ O1.out by' (hz.drew nq) hcz hmz).mono ?_
          rintro e w5 ⟨g5, o5, c5, rfl, hc5, hm5, hcell, hb5⟩
          have hb5' : Below w4.heap.size w4 w5 := (Go.below_drewN (Below.refl _ _) nq).trans hb5
          have hu5 := hu4.below hb5'
          have hz5 := hz.below hb5'
          have hs5 := hs4.below hb5'
          have bel5 := bel2 bel4 hb5'
          have q1 : Rd .u8 w5 (some ⟨g5, o5, none⟩) ys := fun h0 => ⟨g5, o5, rfl, fun i hi => by rw [hcell i (by omega)]; simp [pad16, List.getD, List.getElem?_append_left hi]⟩
          have k1 := conv_rd (c := cz) hz5
          have k2 := conv_rd (c := cu) hu5
          have k3 := conv_rd (c := c5) q1
          have k4 := conv_rd (c := d) hs5
          rw [sealB_length n m1] at k1 k2
          have s1 := strs_eq (sealB n ys)
          have s2 := strs_eq ys
          have z1 : (ys.length : Int) ≤ (c5 : Int) := by omega
          clear hcell hu5 hz5 hs5 q1 hb5 hb5' hu4 hs4 hz
          go_wp2_with fail
          go_quiet (fail)
          go_wp2
          go_ret
          exact ⟨rfl, Go.below_drewN bel5 _⟩
        · refine (open_gen z cz Z _ HL.out (hz.drew nq) bZ hcz hmz).mono ?_
          rintro e w5 ⟨q5, c5, rfl, hb5⟩
          have hb5' : Below w4.heap.size w4 w5 := (Go.below_drewN (Below.refl _ _) nq).trans hb5
          have bel5 := bel2 bel4 hb5'
          clear hu4 hs4 hz
          by_cases t2 : openE Z = 0
          · rw [if_pos t2, t2]
            have t3 : ((openN Z) != n) = true := by rw [bne_iff_ne, openN, if_pos t2]; exact fun e => t1 ⟨t2, e⟩
            clear t1 t2
            generalize openN Z = V at *
            go_wp2
            go_ret
            exact ⟨rfl, bel5⟩
          · rw [if_neg t2]
            have t3 : ((openE Z) != 0) = true := by rw [bne_iff_ne]; exact t2
            clear t1 t2
            generalize openN Z = V at *
            generalize openE Z = V2 at *
            go_wp2
            go_ret
            exact ⟨rfl, bel5⟩
    · have hmix := mix_no p u c cu xs (sealB n ys) many w2 (by rw [sealB_length n m1]; exact o3) hr2 hu hc (by rw [sealB_length n m1]; exact hcu) hm hmu
      rw [sealB_length n m1] at hmix
      have HM := Lib.hid hmix
      clear hmix o3
      go_wp2_with fail
      refine HM.out.mono ?_
      rintro e w4 ⟨x4, y4, rfl, hb4⟩
      go_wp2_with fail
      go_quiet (fail)
      go_wp2
      go_ret
      exact ⟨rfl, Go.below_drewN (bel2 bel hb4) _⟩
  · have O1 := Lib.hid o1
    clear o1
    go_wp2_with fail
    refine (seal_bad' n q d ys w1 O1.out hs1 by' hd hn).mono ?_
    rintro e w2 ⟨u, cu, k, rfl, hk, hcu, hb2⟩
    have hk' : (k != 0) = true := by rw [bne_iff_ne]; omega
    clear hk
    have HM := Lib.hid (mix_gen p u c cu xs [] many w2 (hr1.below hb2) (Rd.nil _ _ _) hc (Nat.zero_le _) hm hcu)
    go_wp2_with fail
    refine HM.out.mono ?_
    rintro e w4 ⟨x4, k4, rfl, hb4⟩
    go_wp2_with fail
    go_quiet (fail)
    go_wp2
    go_ret
    exact ⟨rfl, Go.below_drewN (bel3 hb1 hb2 hb4) _⟩
end Go.Proofs.Ytnmgiiaejpaeeaa
