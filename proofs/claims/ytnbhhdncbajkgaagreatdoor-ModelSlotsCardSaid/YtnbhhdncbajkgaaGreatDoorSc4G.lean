/- scan: find and Brute. -/
import Derived.Test.YtnbhhdncbajkgaaGreatDoorSc3G
namespace Go.Proofs.YtnbhhdncbajkgaaGreatDoor
set_option linter.unusedVariables false
set_option linter.unusedSimpArgs false
open Go.RowKit Go.Shelf
set_option maxRecDepth 100000 in
set_option maxHeartbeats 4000000 in
theorem nopass_c (m : Mem) (w : World) (hm : m.In w) (i : Int) : Calls Tryz.prog 58 #[.int .i64 i] w (Ret w m fun v _ => v = .bool false) := by
  have hS := St.start hm
  go_enter Tryz.func58, Tryz.ntmps58
  go_wp2_with fail
  go_ret
  exact ⟨_, m, rfl, rfl, hS⟩
set_option maxRecDepth 100000 in
set_option maxHeartbeats 4000000 in
theorem find_c {X : List Nat} {w0 w : World} {m0 m : Mem} {b : Nat} {s : Sl} {q1 q2 p : Option Addr} {c1 c2 c : Nat} {q : List Int} {K : Int}
    (hS : St X w0 m0 w [.box b (fiC s q1 c1 q2 c2 q p c K none 0 0 0)] m)
    (hs : slL.rd m [.int .i64 s.dim, .slice q1 s.ids.length c1, .slice q2 s.vecs.length c2] s) (hq : vecL.rd m [.slice p q.length c] q) (hmay : mayP s q K) (hDn : ∀ k, 0 ≤ dN (s.vecs.getD k []) q) :
    Calls Tryz.prog 57 #[.pointer (some ⟨b, 0, none⟩), .func (.func 58) #[] #[]] w fun e w' => ∃ p' c' R m' cells, ∃ N : Int, Hid (R = near K.toNat (hitsOf s q s.ids.length)) ∧ e = .returned (.tuple #[.slice p' R.length c', .int .i64 N, .int .i64 0]) ∧ m.Le m' ∧ Hid (hitL.list.rd m' [.slice p' R.length c'] R) ∧
      St X w0 m0 w' [.box b cells] m' := by
  have H0 := hmay
  obtain ⟨o1, o2, o3, o4, o5⟩ := H0
  have l256 := o1.2.1.2
  have lvecs := o1.2.2.1
  have HK : Hid (InK .i64 K) := inK64 (by omega) (by omega)
  obtain ⟨_, _, _, _, e, hd, h1, h2⟩ := slL_open hs
  cases e
  obtain ⟨_, _, e1, _, _, _, r1⟩ := Lay.list_open h1
  cases e1
  have HI := Lib.hid r1
  have HSl := Lib.hid hs
  have HQ := Lib.hid hq
  have HM := Lib.hid hmay
  have HDn := Lib.hid hDn
  have HLV := Lib.hid lvecs
  have HI0 : Hid (InvN [] (hitsOf s q 0) K) := InvN.nil (by omega) (by omega)
  clear hs hq h1 h2 r1 hmay hDn o1 o2 o3 o4 o5 lvecs
  go_enter Tryz.func57, Tryz.ntmps57
  go_wp2_with (first
    | ((with_reducible refine' Wl.out ?_; apply k_load hS); (· exact .mk)))
  go_loopw [18] (fun vi wr => ∃ (k n : Nat) (kp : Option Addr) (kc : Nat) (l : List Hit) (m' : Mem), k ≤ s.ids.length ∧ vi = .int .i64 k ∧ n ≤ k ∧ Hid (InvN l (hitsOf s q k) K) ∧ Hid (m.Le m') ∧ Hid (hitL.list.rd m' [.slice kp l.length kc] l) ∧ St X w0 m0 wr [.box b (fiC s q1 c1 q2 c2 q p c K kp l.length kc n)] m') (fun vi _ => s.ids.length - (intOf vi).toNat)
  case atStart => exact ⟨0, 0, none, 0, [], m, Nat.zero_le _, rfl, Nat.le_refl _, HI0, Mem.Le.refl _, Lay.nil_rd _ _, hS⟩
  case round =>
    clear hS HI0
    obtain ⟨k, n, kp, kc, l, m', hk, rfl, hn, hI, hle, hrd, hS⟩ := hrel
    by_cases hlt : k < s.ids.length
    · obtain ⟨bi, oi, rfl, hcx, hkx⟩ := HI.out.intAt k hlt
      have hcx' := hle.out _ _ hcx
      have hkz : (k : Int) < s.ids.length := by omega
      by_cases hx : s.ids.getD k 0 = -1
      · have HN : Hid (InvN l (hitsOf s q (k + 1)) K) := by
          have e : hitsOf s q (k + 1) = hitsOf s q k := if_pos hx
          show InvN _ _ _
          rw [e]; exact hI.out
        clear hcx hkx hI
        generalize s.ids.getD k 0 = x at *
        subst hx
        go_wp2_with (first
    | ((with_reducible refine' Wl.out ?_; apply k_load hS); (· exact .mk)))
        go_roundw
        case rel => exact ⟨k + 1, n, kp, kc, l, m', hlt, by go_num, by omega, HN, hle, hrd, hS⟩
        case measure => simp [intOf]; omega
      · obtain ⟨g1, g2, g3, g4⟩ := good_hit HM.out hlt hx
        obtain ⟨a1, a2⟩ := hits_step HM.out HDn.out hlt hI.out hx
        have HC := Lib.hid (fun (ww : World) (hh : St X w0 m0 ww [.box b (fiC s (some ⟨bi, oi, none⟩) c1 q2 c2 q p c K kp l.length kc n)] m') => look_c hh (Lay.mono _ hle.out HSl.out) (Lay.mono _ hle.out HQ.out) hrd.out HK.out (by omega) k hlt (by rw [HLV.out]; exact hlt) g1 a1)
        have HN := Lib.hid a2
        clear hcx hkx hI g1 g2 g3 g4 a1 a2
        generalize s.ids.getD k 0 = x at *
        go_wp2_with (first
    | ((with_reducible refine' Wl.out ?_; apply k_load hS); (· exact .mk))
          | (go_at_call 58; refine (nopass_c m' _ hS.inw _).mono ?_; rintro e' w28 ⟨_, m28, rfl, rfl, hk28⟩; replace hS := hS.grow (grownBy_of_below hk28.below); clear hk28)
          | (go_at_call 82; refine (HC.out _ hS).mono ?_; clear hS; rintro e' w32 ⟨rfl, kp2, kc2, l2, m2, hl2, hle2, hrd2, hS⟩))
        go_roundw
        case rel => exact ⟨k + 1, n + 1, kp2, kc2, l2, m2, hlt, by go_num, by omega, (by rw [hl2.out]; exact HN.out), hle.out.trans hle2, hrd2, hS⟩
        case measure => simp [intOf]; omega
    · obtain rfl : k = s.ids.length := by omega
      have hsrt := Lib.hid hI.out.sorted
      go_wp2_with (first
    | ((with_reducible refine' Wl.out ?_; apply k_load hS); (· exact .mk)))
      replace hS := hS.drew
      refine startL (S := Sx _ [(b, _)]) (by kernel_rfl) (hS.sx0.cons hS (by (repeat constructor))) (fun _ _ _ _ => trivial) (fun hHeld => ?_)
      focus (refine takeN 0 (v := ?_) rfl (by kernel_rfl) ?_ ?_; rotate_left; focus (intro w hSw; clear hSw; go_simp; try with_reducible rfl))
      try simp only [Act.put, nz1, nz2, nz3]
      focus (refine takeN 1 (v := ?_) rfl (by kernel_rfl) ?_ ?_; rotate_left; focus (intro w hSw; clear hSw; go_simp; try with_reducible rfl))
      try simp only [Act.put, nz1, nz2, nz3]
      focus (refine takeN 2 (v := ?_) rfl (by kernel_rfl) ?_ ?_; rotate_left; focus (intro w hSw; clear hSw; go_simp; try with_reducible rfl))
      try simp only [Act.put, nz1, nz2, nz3]
      refine takeN 3 rfl (by kernel_rfl) (yield_load rfl Tryz.underlying34 rfl rfl (by (first | (apply FindX.box; (· (repeat constructor)); rfl) | exact FindX.mem (by assumption)))) ?_
      try simp only [Act.put, nz1, nz2, nz3]
      focus (refine takeN 4 (v := ?_) rfl (by kernel_rfl) ?_ ?_; rotate_left; focus (intro w hSw; clear hSw; go_simp; try with_reducible rfl))
      try simp only [Act.put, nz1, nz2, nz3]
      focus (refine takeN 5 (v := ?_) rfl (by kernel_rfl) ?_ ?_; rotate_left; focus (intro w hSw; clear hSw; go_simp; try with_reducible rfl))
      try simp only [Act.put, nz1, nz2, nz3]
      focus (refine takeN 6 (v := ?_) rfl (by kernel_rfl) ?_ ?_; rotate_left; focus (intro w hSw; clear hSw; go_simp; try with_reducible rfl))
      try simp only [Act.put, nz1, nz2, nz3]
      refine takeN 7 rfl (by kernel_rfl) (yield_load rfl Tryz.underlying3 rfl rfl (by (first | (apply FindX.box; (· (repeat constructor)); rfl) | exact FindX.mem (by assumption)))) ?_
      try simp only [Act.put, nz1, nz2, nz3]
      refine wpAnyH_ready (rs := [8]) (by kernel_rfl) (by simp) ?_
      refine consL 8 rfl (fun K hK => ?_) AllReadyH.nil
      rw [if_pos (by rfl)]; go_simp; refine (letHE sortH_len (bsorted_c _ _ hS.inw _ _ hrd.out _ HK.out)).mono ?_; rintro e' w46 ⟨_, m46, rfl, ⟨p46, c46, Y46, E46, HY46, HE46, rfl, R46, C46⟩, hk⟩; replace hS := hS.call hk; have HLE := Lib.hid hk.le; clear hk; obtain rfl := HE46.out.trans hsrt.out.2; go_wp2_with fail
      refine hK.out _ _ (by first | exact (hS.sx0.cons hS (by (repeat constructor))) | exact Sx.le (by assumption) (hS.sx0.cons hS (by (repeat constructor)))) (fun hHeld => ?_)
      clear hK K
      try simp only [Act.put, nz1, nz2, nz3]
      focus (refine takeN 9 (v := ?_) rfl (by kernel_rfl) ?_ ?_; rotate_left; focus (intro w hSw; clear hSw; go_simp; try with_reducible rfl))
      try simp only [Act.put, nz1, nz2, nz3]
      focus (refine takeN 10 (v := ?_) rfl (by kernel_rfl) ?_ ?_; rotate_left; focus (intro w hSw; clear hSw; go_simp; try with_reducible rfl))
      try simp only [Act.put, nz1, nz2, nz3]
      focus (refine takeN 11 (v := ?_) rfl (by kernel_rfl) ?_ ?_; rotate_left; focus (intro w hSw; clear hSw; go_simp; try with_reducible rfl))
      try simp only [Act.put, nz1, nz2, nz3]
      focus (refine takeN 12 (v := ?_) rfl (by kernel_rfl) ?_ ?_; rotate_left; focus (intro w hSw; clear hSw; go_simp; try with_reducible rfl))
      try simp only [Act.put, nz1, nz2, nz3]
      focus (refine takeN 13 (v := ?_) rfl (by kernel_rfl) ?_ ?_; rotate_left; focus (intro w hSw; clear hSw; go_simp; try with_reducible rfl))
      try simp only [Act.put, nz1, nz2, nz3]
      refine wpAnyH_done (by kernel_rfl) ?_ _
      refine NoPanic.normal ?_
      all_goals
        go_wp2_with (first
    | ((with_reducible refine' Wl.out ?_; apply k_load hS); (· exact .mk)))
        replace hS := hS.drew
        refine startL (S := Sx _ [(b, _)]) (by kernel_rfl) (hS.sx0.cons hS (by (repeat constructor))) (fun _ _ _ _ => trivial) (fun hHeld => ?_)
        focus (refine takeN 0 (v := ?_) rfl (by kernel_rfl) ?_ ?_; rotate_left; focus (intro w hSw; clear hSw; go_simp; try with_reducible rfl))
        try simp only [Act.put, nz1, nz2, nz3]
        focus (refine takeN 1 (v := ?_) rfl (by kernel_rfl) ?_ ?_; rotate_left; focus (intro w hSw; clear hSw; go_simp; try with_reducible rfl))
        try simp only [Act.put, nz1, nz2, nz3]
        focus (refine takeN 2 (v := ?_) rfl (by kernel_rfl) ?_ ?_; rotate_left; focus (intro w hSw; clear hSw; go_simp; try with_reducible rfl))
        try simp only [Act.put, nz1, nz2, nz3]
        focus (refine takeN 3 (v := ?_) rfl (by kernel_rfl) ?_ ?_; rotate_left; focus (intro w hSw; clear hSw; go_simp; try with_reducible rfl))
        try simp only [Act.put, nz1, nz2, nz3]
        refine takeN 4 rfl (by kernel_rfl) (yield_load rfl Tryz.underlying3 rfl rfl (by (first | (apply FindX.box; (· (repeat constructor)); rfl) | exact FindX.mem (by assumption)))) ?_
        try simp only [Act.put, nz1, nz2, nz3]
        focus (refine takeN 5 (v := ?_) rfl (by kernel_rfl) ?_ ?_; rotate_left; focus (intro w hSw; clear hSw; go_simp; try with_reducible rfl))
        try simp only [Act.put, nz1, nz2, nz3]
        focus (refine takeN 6 (v := ?_) rfl (by kernel_rfl) ?_ ?_; rotate_left; focus (intro w hSw; clear hSw; go_simp; try with_reducible rfl))
        try simp only [Act.put, nz1, nz2, nz3]
        focus (refine takeN 7 (v := ?_) rfl (by kernel_rfl) ?_ ?_; rotate_left; focus (intro w hSw; clear hSw; go_simp; try with_reducible rfl))
        try simp only [Act.put, nz1, nz2, nz3]
        focus (refine takeN 8 (v := ?_) rfl (by kernel_rfl) ?_ ?_; rotate_left; focus (intro w hSw; clear hSw; go_simp; try with_reducible rfl))
        try simp only [Act.put, nz1, nz2, nz3]
        refine wpAnyH_done (by kernel_rfl) ?_ _
        refine NoPanic.normal ?_
        go_wp2_with fail
      all_goals
        go_ret3
        exact ⟨p46, c46, Y46, m46, _, _, HY46.out.trans hsrt.out.1, rfl, hle.out.trans HLE.out, R46, hS⟩
/-- The nearest ones. -/
noncomputable def bruteR (s : Sl) (q : List Int) (K : Int) : List Hit := if mayP s q K then near K.toNat (hitsOf s q s.ids.length) else []
theorem dN_nonneg {m : Mem} {v u : Value} {s : Sl} {q : List Int} (h : vecL.list.rd m [v] s.vecs) (hq : vecL.rd m [u] q) (k : Nat) : 0 ≤ dN (s.vecs.getD k []) q := by
  obtain ⟨_, _, rfl, _, _, _, r⟩ := Lay.list_open h
  by_cases hk : k < s.vecs.length
  · obtain ⟨_, _, _, _, _, _, hrd⟩ := r.listAt k hk
    exact (dN_in (ints_in hrd) (ints_in hq)).1
  · have e : s.vecs.getD k [] = [] := by simp [List.getD, Nat.le_of_not_lt hk]
    rw [e]
    exact (dN_in (a := []) (by simp [In16]) (ints_in hq)).1
theorem near_len (k : Nat) (l : List Hit) : (near k l).length ≤ k := by unfold near; rw [List.length_take]; omega
set_option maxRecDepth 100000 in
set_option maxHeartbeats 4000000 in
theorem brute_c (m : Mem) (w : World) (hm : m.In w) (q1 q2 : Option Addr) (c1 c2 : Nat) (s : Sl) (h : slL.rd m [.int .i64 s.dim, .slice q1 s.ids.length c1, .slice q2 s.vecs.length c2] s) (vq : Value) (q : List Int) (hq : vecL.rd m [vq] q) (K : Int) :
    Calls Tryz.prog 24 #[.agg #[.int .i64 s.dim, .slice q1 s.ids.length c1, .slice q2 s.vecs.length c2], vq, .int .i64 K] w (Ret w m fun v m' => ∃ p c R E, Hid (R = bruteR s q K) ∧ Hid (E = mayE s q K) ∧ v = .tuple #[.slice p R.length c, .int .i64 E] ∧ Hid (hitL.list.rd m' [.slice p R.length c] R)) := by
  have hS := St.start hm
  have A0 := Lib.hid h
  have A1 := Lib.hid hq
  obtain ⟨p, c, rfl, _⟩ := Lay.list_open hq
  obtain ⟨_, _, _, _, e, _, _, h2⟩ := slL_open h
  cases e
  have HDn := Lib.hid (dN_nonneg h2 hq)
  clear h hq h2
  by_cases hm : mayP s q K
  · have hE : Hid (mayE s q K = 0) := if_pos hm
    have hR : Hid (bruteR s q K = near K.toNat (hitsOf s q s.ids.length)) := if_pos hm
    have HM := Lib.hid hm
    clear hm
    go_enter Tryz.func24, Tryz.ntmps24
    go_wp2_with (first
    | ((with_reducible refine' Wl.out ?_; apply k_box hS); (· exact .mk); clear hS; intro _ _ hS)
    | ((with_reducible refine' Wl.out ?_; apply k_loads hS); (· exact .mk))
      | (go_at_call 56; refine (smay_c m _ hS.inw _ _ _ _ s A0.out _ q A1.out _).mono ?_; rintro e' w16 ⟨_, m16, rfl, hv16, hk⟩; replace hS := hS.grow (grownBy_of_below hk.below); clear hk; rw [hE.out] at hv16; subst hv16)
      | (go_at_call 57; refine (find_c (St.sub (ls := [_]) hS) A0.out A1.out HM.out HDn.out).mono ?_; rintro e' w27 ⟨p27, c27, R27, m27, cells27, N27, hR27, rfl, hle27, hrd27, hk⟩; replace hS := St.lendL (ls := [_]) hS hk; clear hk))
    go_ret2
    exact ⟨_, m27, rfl, ⟨p27, c27, R27, 0, hR27.out.trans hR.out.symm, hE.out.symm, rfl, hrd27⟩, hS.done⟩
  · have hE : Hid (mayE s q K = 1) := if_neg hm
    have hR : Hid (bruteR s q K = []) := if_neg hm
    clear hm
    go_enter Tryz.func24, Tryz.ntmps24
    go_wp2_with (first
    | ((with_reducible refine' Wl.out ?_; apply k_box hS); (· exact .mk); clear hS; intro _ _ hS)
    | ((with_reducible refine' Wl.out ?_; apply k_loads hS); (· exact .mk))
      | (go_at_call 56; refine (smay_c m _ hS.inw _ _ _ _ s A0.out _ q A1.out _).mono ?_; rintro e' w16 ⟨_, m16, rfl, hv16, hk⟩; replace hS := hS.grow (grownBy_of_below hk.below); clear hk; rw [hE.out] at hv16; subst hv16))
    go_ret2
    exact ⟨_, m, rfl, ⟨none, 0, [], 1, hR.out.symm, hE.out.symm, rfl, Lay.nil_rd _ _⟩, hS.done⟩
end Go.Proofs.YtnbhhdncbajkgaaGreatDoor
