/- The walk of the law StampTorn: it returns true. -/
import Derived.Test.YtnmgiiaejpaeeaaStamp6
import Derived.Test.YtnmgiiaejpaeeaaRowB
import Derived.BigQuiet
import Derived.Deep.QuietTactic
namespace Go.Proofs.Ytnmgiiaejpaeeaa
set_option linter.unusedVariables false
set_option linter.unusedSimpArgs false
open Go.RowKit
theorem bel3 {w w1 w2 w3 : World} (h1 : Below w.heap.size w w1) (h2 : Below w1.heap.size w1 w2) (h3 : Below w2.heap.size w2 w3) : Below w.heap.size w w3 :=
  (h1.trans (h2.mono h1.size)).trans (h3.mono (Nat.le_trans h1.size h2.size))
theorem bel2 {w w1 w2 : World} (h1 : Below w.heap.size w w1) (h2 : Below w1.heap.size w1 w2) : Below w.heap.size w w2 := h1.trans (h2.mono h1.size)
theorem seal_pay {w : World} {p : Option Addr} {n : Int} {xs : List Int} (hr : Rd .u8 w p (sealB n xs)) (h : xs.length ≤ 16) : ∃ b o, p = some ⟨b, o, none⟩ ∧ Rd .u8 w (some ⟨b, o + 8, none⟩) (pad16 xs) := by
  obtain ⟨b, o, rfl, hc⟩ := hr (by rw [sealB_length n h]; omega)
  refine ⟨b, o, rfl, ?_⟩
  have h8 := Rd.part hc 8
  rw [drop8_seal] at h8
  have := h8.take 16
  rwa [List.take_append_of_le_length (by rw [pad16_length h]; exact Nat.le_refl _), List.take_of_length_le (by rw [pad16_length h]; exact Nat.le_refl _)] at this
set_option maxRecDepth 100000 in
set_option maxHeartbeats 4000000 in
theorem walkStampTorn (w : World) (a : Int) (ha : (Lit.int .i64 a).wf = true) (b : Int) (hb : (Lit.int .i64 b).wf = true)
    (p : Option Addr) (c : Nat) (xs : List Int) (hr : Rd .u8 w p xs) (hw : ∀ x ∈ xs, (Lit.int .u8 x).wf = true) (hc : xs.length ≤ c) (hm : c ≤ maxLen) (hy : xs.length * 1 ≤ 140737488351232)
    (q : Option Addr) (d : Nat) (ys : List Int) (hs : Rd .u8 w q ys) (hx : ∀ x ∈ ys, (Lit.int .u8 x).wf = true) (hd : ys.length ≤ d) (hn : d ≤ maxLen) (hz : ys.length * 1 ≤ 140737488351232)
    (many : Int) (hmany : (Lit.int .i64 many).wf = true) :
    Calls Try.prog 5 #[.int .i64 a, .int .i64 b, .slice p xs.length c, .slice q ys.length d, .int .i64 many] w fun e w' => e = .returned (.bool true) ∧ Below w.heap.size w w' := by
  have bx := isB_of_wf hw
  have by' := isB_of_wf hx
  clear ha hb hw hx hmany
  by_cases early : 200 < xs.length ∨ (xs.length ≤ 200 ∧ 200 < ys.length) ∨ (xs.length ≤ 200 ∧ ys.length ≤ 200 ∧ a = b)
  · rcases early with h | ⟨h, h'⟩ | ⟨h, h', rfl⟩
    all_goals
      go_enter Try.func5, Try.ntmps5
      go_wp2_with fail
      refine (live_any w).mono ?_
      rintro e w1 ⟨rfl, hb1⟩
      go_wp2
      go_ret
      exact ⟨rfl, hb1⟩
  have l1 : xs.length ≤ 200 := by omega
  have l2 : ys.length ≤ 200 := by omega
  have hab : a ≠ b := by omega
  have nab : (a == b) = false := by rw [beq_eq_false_iff_ne]; exact hab
  have HAB := Lib.hid hab
  clear early hy hz hab
  go_enter Try.func5, Try.ntmps5
  go_wp2_with fail
  refine (live_any w).mono ?_
  rintro e w1 ⟨rfl, hb1⟩
  have hr1 := hr.below hb1
  have hs1 := hs.below hb1
  clear hr hs
  by_cases o1 : sealOK a xs.length
  · have O1 := Lib.hid o1
    have m1 := o1.2.2
    clear o1
    go_wp2_with fail
    refine (seal_ok a p c xs w1 O1.out hr1 bx hc).mono ?_
    rintro e w2 ⟨u, cu, rfl, hu, hcu, hmu, hb2⟩
    have hs2 := hs1.below hb2
    by_cases o2 : sealOK b ys.length
    · have O2 := Lib.hid o2
      have m2 := o2.2.2
      clear o2
      go_wp2_with fail
      refine (seal_ok b q d ys w2 O2.out hs2 by' hd).mono ?_
      rintro e w3 ⟨v, cv, rfl, hv, hcv, hmv, hb3⟩
      have hu3 := hu.below hb3
      have bel := bel3 hb1 hb2 hb3
      clear hs2 hs1 hr1 hu hb1 hb2 hb3
      by_cases o3 : mixOK 32 32 many
      · have hmix := mix_yes u v cu cv (sealB a xs) (sealB b ys) many w3 (by rw [sealB_length a m1, sealB_length b m2]; exact o3) hu3 hv (by rw [sealB_length a m1]; exact hcu) (by rw [sealB_length b m2]; exact hcv) hmu hmv
        rw [sealB_length a m1, sealB_length b m2] at hmix
        have ways := torn_ways a b xs ys many.toNat (by unfold mixOK at o3; omega) HAB.out O1.out O2.out
        obtain ⟨Z, hZ⟩ : ∃ Z, Z = (sealB b ys).take many.toNat ++ (sealB a xs).drop many.toNat := ⟨_, rfl⟩
        have lZ : Z.length = 32 := by rw [hZ]; have := sealB_length a m1; have := sealB_length b m2; unfold mixOK at o3; simp; omega
        have bZ : IsB Z := by
          rw [hZ]
          exact IsB.append (fun x hx => sealB_isB b by' x (List.mem_of_mem_take hx)) (fun x hx => sealB_isB a bx x (List.mem_of_mem_drop hx))
        rw [← hZ] at hmix ways
        have HM := Lib.hid hmix; have HL := Lib.hid lZ
        clear hmix hZ o3 lZ
        go_wp2_with fail
        refine HM.out.mono ?_
        rintro e w4 ⟨z, cz, rfl, hz, hcz, hmz, hb4⟩
        have hu4 := hu3.below hb4
        have hv4 := hv.below hb4
        have bel4 := bel2 bel hb4
        clear hu3 hv bel hb4 HM
        unfold maxLen at hmu hmv hmz
        rcases ways with rfl | rfl | ⟨z1, z2, z3⟩
        · go_wp2_with fail
          refine (open_sealed a z cz xs w4 O1.out bx hz hcz hmz).mono ?_
          rintro e w5 ⟨g, o, c5, rfl, hc5, hm5, hcell, hb5⟩
          have hu5 := hu4.below hb5
          have hz5 := hz.below hb5
          have bel5 := bel2 bel4 hb5
          have r5 : Rd .u8 w5 (some ⟨g, o, none⟩) (pad16 xs) := fun _ => ⟨g, o, rfl, by rw [pad16_length m1]; exact hcell⟩
          obtain ⟨gu, ou, rfl, ru⟩ := seal_pay hu5 m1
          have k1 := conv_rd (c := cz) hz5
          have k2 := conv_rd (c := cu) hu5
          have k3 := conv_rd (c := c5) r5
          have k4 := conv_rd (c := cu - 8) ru
          rw [sealB_length a m1] at k1 k2
          rw [pad16_length m1] at k3 k4
          have k10 := k1 0
          have k20 := k2 0
          simp only [World.drewN_zero] at k10 k20
          have s1 := strs_eq (sealB a xs)
          have s2 := strs_eq (pad16 xs)
          have ncu : ¬ cu = 8 := by omega
          have ncu' : (24 : Int) ≤ (cu : Int) := by omega
          clear hcell hu5 hz5 ru r5 hu4 hv4 hz hb5
          go_wp2_with fail
          go_quiet (fail)
          go_wp2
          go_ret
          exact ⟨rfl, Go.below_drewN bel5 _⟩
        · go_wp2_with fail
          refine (open_sealed b z cz ys w4 O2.out by' hz hcz hmz).mono ?_
          rintro e w5 ⟨g, o, c5, rfl, hc5, hm5, hcell, hb5⟩
          have hu5 := hu4.below hb5
          have hv5 := hv4.below hb5
          have hz5 := hz.below hb5
          have bel5 := bel2 bel4 hb5
          have r5 : Rd .u8 w5 (some ⟨g, o, none⟩) (pad16 ys) := fun _ => ⟨g, o, rfl, by rw [pad16_length m2]; exact hcell⟩
          obtain ⟨gv, ov, rfl, rv⟩ := seal_pay hv5 m2
          have k1 := conv_rd (c := cz) hz5
          have k2 := conv_rd (c := cu) hu5
          have k3 := conv_rd (c := c5) r5
          have k4 := conv_rd (c := cv - 8) rv
          have k5 := conv_rd (c := cv) hv5
          rw [sealB_length b m2] at k1 k5
          rw [sealB_length a m1] at k2
          rw [pad16_length m2] at k3 k4
          have k10 := k1 0
          have k20 := k2 0
          have k50 := k5 0
          simp only [World.drewN_zero] at k10 k20 k50
          have s0 : ((strOfNums (sealB b ys)).toList == (strOfNums (sealB a xs)).toList) = false := by
            rw [strs_beq bZ (sealB_isB a bx)]
            exact decide_eq_false fun e => HAB.out (le8_inj O1.out.1 O1.out.2.1 O2.out.1 O2.out.2.1 (by rw [← take8_seal a xs, ← take8_seal b ys, e]))
          have s1 := strs_eq (sealB b ys)
          have s2 := strs_eq (pad16 ys)
          have ncu : ¬ cv = 8 := by omega
          have ncu' : (24 : Int) ≤ (cv : Int) := by omega
          clear hcell hu5 hz5 hv5 rv r5 hu4 hv4 hz hb5 bZ
          go_wp2_with fail
          go_quiet (fail)
          go_wp2
          go_ret
          exact ⟨rfl, Go.below_drewN bel5 _⟩
        · have T := Lib.hid z3
          have s0 : ((strOfNums Z).toList == (strOfNums (sealB a xs)).toList) = false := by
            rw [strs_beq bZ (sealB_isB a bx)]; exact decide_eq_false z1
          have s1 : ((strOfNums Z).toList == (strOfNums (sealB b ys)).toList) = false := by
            rw [strs_beq bZ (sealB_isB b by')]; exact decide_eq_false z2
          clear z1 z2 z3
          go_wp2_with fail
          refine (open_torn z cz Z w4 HL.out T.out hz bZ hcz hmz).mono ?_
          rintro e w5 ⟨q5, c5, rfl, hb5⟩
          have k10 := conv_rd (c := cz) (hz.below hb5) 0
          have k20 := conv_rd (c := cu) (hu4.below hb5) 0
          have k50 := conv_rd (c := cv) (hv4.below hb5) 0
          rw [HL.out] at k10
          rw [sealB_length a m1] at k20
          rw [sealB_length b m2] at k50
          simp only [World.drewN_zero] at k10 k20 k50
          have bel5 := bel2 bel4 hb5
          clear hu4 hv4 hz hb5 bZ
          go_wp2
          go_ret
          exact ⟨rfl, bel5⟩
      · have hmix := mix_no u v cu cv (sealB a xs) (sealB b ys) many w3 (by rw [sealB_length a m1, sealB_length b m2]; exact o3) hu3 hv (by rw [sealB_length a m1]; exact hcu) (by rw [sealB_length b m2]; exact hcv) hmu hmv
        rw [sealB_length a m1, sealB_length b m2] at hmix
        have HM := Lib.hid hmix
        clear hmix o3
        go_wp2_with fail
        refine HM.out.mono ?_
        rintro e w4 ⟨x4, y4, rfl, hb4⟩
        go_wp2
        go_ret
        exact ⟨rfl, bel2 bel hb4⟩
    · have O2 := Lib.hid o2
      clear o2
      go_wp2_with fail
      refine (seal_bad' b q d ys w2 O2.out hs2 by' hd hn).mono ?_
      rintro e w3 ⟨v, cv, k, rfl, hk, hcv, hb3⟩
      have hmix := mix_gen u v cu cv (sealB a xs) [] many w3 (hu.below hb3) (Rd.nil _ _ _) (by rw [sealB_length a m1]; exact hcu) (Nat.zero_le _) hmu hcv
      rw [sealB_length a m1] at hmix
      have HM := Lib.hid hmix
      clear hmix
      go_wp2_with fail
      refine HM.out.mono ?_
      rintro e w4 ⟨x4, k4, rfl, hb4⟩
      go_wp2
      go_ret
      exact ⟨rfl, bel2 (bel3 hb1 hb2 hb3) hb4⟩
  · have O1 := Lib.hid o1
    clear o1
    go_wp2_with fail
    refine (seal_bad' a p c xs w1 O1.out hr1 bx hc hm).mono ?_
    rintro e w2 ⟨u, cu, k, rfl, hk, hcu, hb2⟩
    go_wp2_with fail
    refine (seal_gen b q d ys w2 (hs1.below hb2) by' hd hn).mono ?_
    rintro e w3 ⟨zs, v, cv, k3, rfl, hv, hcv, hmv, hb3⟩
    have HM := Lib.hid (mix_gen u v cu cv [] zs many w3 (Rd.nil _ _ _) hv (Nat.zero_le _) hcv hcu hmv)
    clear hv
    go_wp2_with fail
    refine HM.out.mono ?_
    rintro e w4 ⟨x4, k4, rfl, hb4⟩
    go_wp2
    go_ret
    exact ⟨rfl, bel2 (bel3 hb1 hb2 hb3) hb4⟩
end Go.Proofs.Ytnmgiiaejpaeeaa
