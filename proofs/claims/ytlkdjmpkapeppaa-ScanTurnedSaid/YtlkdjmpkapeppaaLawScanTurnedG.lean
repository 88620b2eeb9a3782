/- The walk of ScanTurned. -/
import Derived.Test.YtlkdjmpkapeppaaTw3G
import Derived.Test.YtlkdjmpkapeppaaTw4G
namespace Go.Proofs.Ytlkdjmpkapeppaa
set_option linter.unusedVariables false
set_option linter.unusedSimpArgs false
open Go.RowKit Go.Shelf
set_option maxRecDepth 100000 in
set_option maxHeartbeats 8000000 in
theorem walkScanTurned (w : World) (vs : Value) (s : Sl) (hs : ∃ q1 c1 q2 c2, vs = .agg #[.int .i64 s.dim, .slice q1 s.ids.length c1, .slice q2 s.vecs.length c2] ∧ slL.rd (World.mem w) [.int .i64 s.dim, .slice q1 s.ids.length c1, .slice q2 s.vecs.length c2] s) (vq : Value) (q : List Int) (hq : vecL.rd (World.mem w) [vq] q) (K : Int) (hk : (Lit.int .i64 K).wf = true) (way : Int) (hz : (Lit.int .i64 way).wf = true) :
    Calls Try.prog 9 #[vs, vq, .int .i64 K, .int .i64 way] w fun e w' => e = .returned (.bool true) ∧ Below w.heap.size w w' := by
  obtain ⟨q1, c1, q2, c2, rfl, hs⟩ := hs
  have hS := St.start (World.mem_in w)
  have A0 := Lib.hid hs
  have A1 := Lib.hid hq
  obtain ⟨p, c, rfl, _⟩ := Lay.list_open hq
  obtain ⟨_, _, _, _, e, hd, h1, h2⟩ := slL_open hs
  cases e
  obtain ⟨_, _, e1, _, m1, _, r1⟩ := Lay.list_open h1
  obtain ⟨_, _, e2, _, _, hb2, r2⟩ := Lay.list_open h2
  cases e1
  cases e2
  have HI := Lib.hid r1
  have HV := Lib.hid r2
  have HD := Lib.hid hd
  have HB2 := Lib.hid hb2
  have HIq := Lib.hid (ints_in hq)
  have hin : Hid (∀ k, In16 (s.vecs.getD k [])) := fun k => by
    by_cases hk : k < s.vecs.length
    · obtain ⟨_, _, _, _, _, _, hrd⟩ := r2.listAt k hk
      exact ints_in hrd
    · have e : s.vecs.getD k [] = [] := by simp [List.getD, Nat.le_of_not_lt hk]
      rw [e]; simp [In16]
  clear hs hq h1 h2 r1 r2 hk hz hd hb2
  by_cases hmay : ¬ mayP s q K
  · have hE : Hid (mayE s q K = 1) := if_neg hmay
    clear hmay HI HV
    go_enter Try.func9, Try.ntmps9
    go_wp2_with (first
    | ((with_reducible refine' Wl.out ?_; apply k_box (ty := 48) (y := (.tmp 0)) hS); (· exact .mk); clear hS; intro w4 b4 hS)
    | ((with_reducible refine' Wl.out ?_; apply k_alloc (ty := 48) (dst := some 12) hS); (· exact .mk); clear hS; intro w12 b12 hS)
    | ((with_reducible refine' Wl.out ?_; apply k_load hS); (· exact .mk))
    | ((with_reducible refine' Wl.out ?_; apply k_loads hS); (· exact .mk))
    | ((with_reducible refine' Wl.out ?_; apply k_store hS); (· exact .mk); clear hS; intro ws hS)
    | ((with_reducible refine' Wl.out ?_; apply k_storeR hS); (· exact .mk); clear hS; intro ws hS)
    | ((with_reducible refine' Wl.out ?_; apply k_stores hS); (· exact .mk); clear hS; intro ws hS)
      | (go_at_call 24; refine (live17_c _ _ hS.inw).mono ?_; rintro e' w21 ⟨_, m21, rfl, rfl, hk⟩; replace hS := hS.grow (grownBy_of_below hk.below); clear hk)
      | (go_at_call 25; refine (few17_nil _ _ hS.inw _ _ _ _ s A0.out _ q A1.out).mono ?_; rintro e' w28 ⟨_, m28, rfl, ⟨B, rfl⟩, hk⟩; replace hS := hS.grow (grownBy_of_below hk.below); clear hk; cases B)
      | (go_at_call 26; refine (brute_c _ _ hS.inw _ _ _ _ s A0.out _ q A1.out _).mono ?_; rintro e' w35 ⟨_, m35, rfl, ⟨p35, c35, Y35, E35, HY35, HE35, rfl, R35⟩, hk⟩; replace hS := hS.call hk; clear hk; obtain rfl := HE35.out.trans hE.out))
    all_goals (first | (go_ret; exact ⟨rfl, hS.below⟩) | (go_ret; refine ⟨?_, hS.below⟩; simp; done))
  replace hmay := Classical.not_not.1 hmay
  have hE : Hid (mayE s q K = 0) := if_pos hmay
  have HM := Lib.hid hmay
  have l256 := hmay.1.2.1.2
  have hvl := Lib.hid hmay.1.2.2.1
  obtain ⟨t1, t2⟩ := turned_law (way := way) hmay hin.out HIq.out
  have HT1 : Hid (mayE (trS way s) (turnV way q) K = 0) := if_pos t1
  have HT2 := Lib.hid t2
  have HTq : turnE way q → Hid (turnR way q = turnV way q ∧ turnI way q = 0) := fun h => ⟨if_pos h, if_pos h⟩
  have HNq : ¬ turnE way q → Hid (turnI way q = 1) := fun h => if_neg h
  have hfq := hmay.2.1
  clear hmay t1 t2
  go_enter Try.func9, Try.ntmps9
  go_wp2_with (first
    | ((with_reducible refine' Wl.out ?_; apply k_box (ty := 48) (y := (.tmp 0)) hS); (· exact .mk); clear hS; intro w4 b4 hS)
    | ((with_reducible refine' Wl.out ?_; apply k_alloc (ty := 48) (dst := some 12) hS); (· exact .mk); clear hS; intro w12 b12 hS)
    | ((with_reducible refine' Wl.out ?_; apply k_load hS); (· exact .mk))
    | ((with_reducible refine' Wl.out ?_; apply k_loads hS); (· exact .mk))
    | ((with_reducible refine' Wl.out ?_; apply k_store hS); (· exact .mk); clear hS; intro ws hS)
    | ((with_reducible refine' Wl.out ?_; apply k_storeR hS); (· exact .mk); clear hS; intro ws hS)
    | ((with_reducible refine' Wl.out ?_; apply k_stores hS); (· exact .mk); clear hS; intro ws hS)
    | (go_at_call 24; refine (live17_c _ _ hS.inw).mono ?_; rintro e' w21 ⟨_, m21, rfl, rfl, hk⟩; replace hS := hS.grow (grownBy_of_below hk.below); clear hk)
      | (go_at_call 25; refine (few17_nil _ _ hS.inw _ _ _ _ s A0.out _ q A1.out).mono ?_; rintro e' w28 ⟨_, m28, rfl, ⟨B, rfl⟩, hk⟩; replace hS := hS.grow (grownBy_of_below hk.below); clear hk; cases B)
    | (go_at_call 26; refine (brute_c _ _ hS.inw _ _ _ _ s A0.out _ q A1.out _).mono ?_; rintro e' w35 ⟨_, m35, rfl, ⟨p35, c35, Y35, E35, HY35, HE35, rfl, R35⟩, hk⟩; replace hS := hS.call hk; replace A0 := Lib.hid (Lay.mono _ hk.le A0.out); replace A1 := Lib.hid (Lay.mono _ hk.le A1.out); have HLE := Lib.hid hk.le; clear hk; obtain rfl := HE35.out.trans hE.out)
    | (go_at_call 28; refine (copy10_c _ _ hS.inw _ _ _ _ s A0.out).mono ?_; rintro e' w42 ⟨p42, d42, q42, c42, cells42, m42, rfl, hle42, hrd42, hc42, hk⟩; replace hS := hS.callOwn hk; clear hk; simp only [List.cons_append, List.nil_append] at hS))
  · (first | (go_ret; exact ⟨rfl, hS.below⟩) | (go_ret; refine ⟨?_, hS.below⟩; simp; done))
  have A1' := Lib.hid (Lay.mono _ hle42 A1.out)
  have R35' := Lib.hid (Lay.mono _ hle42 R35.out)
  replace HLE := Lib.hid (HLE.out.trans hle42)
  replace hS := ((hS.front (x := .box b4 _) (by (repeat constructor))).front (x := .box b12 _) (by (repeat constructor))).front (x := .row 50 1 _ _ _) (by (repeat constructor))
  have hl1 : s.ids.length ≤ 9223372036854775807 := by omega
  go_loopw [46] (fun vi wr => ∃ (k : Nat) (cells : List Value) (m' : Mem), k ≤ s.ids.length ∧ vi = .int .i64 k ∧ Hid (m42.Le m') ∧ Hid (CellsOf vecL m' cells (trV way s k)) ∧ St [] w (World.mem w) wr [.row 50 1 (.slice q42 s.vecs.length c42) s.vecs.length cells, .box b12 [.int .i64 s.dim, .slice p42 s.ids.length d42, .slice q42 s.vecs.length c42], .box b4 [.int .i64 s.dim, .slice q1 s.ids.length c1, .slice q2 s.vecs.length c2]] m') (fun vi _ => s.ids.length - (intOf vi).toNat)
  case atStart => exact ⟨0, cells42, m42, Nat.zero_le _, rfl, Mem.Le.refl _, hc42, hS⟩
  case round =>
    clear hS
    obtain ⟨k, cells, m', hk, rfl, hle, hcells, hS⟩ := hrel
    by_cases hlt : k < s.ids.length
    · obtain ⟨bi, oi, rfl, hcx, hkx⟩ := HI.out.intAt k hlt
      have hcx' := hle.out _ _ (HLE.out _ _ hcx)
      have hkz : (k : Int) < s.ids.length := by omega
      by_cases hx : s.ids.getD k 0 = -1
      · have hc : Hid (CellsOf vecL m' cells (trV way s (k + 1))) := by
          rw [show trV way s (k + 1) = trV way s k from if_pos hx]; exact hcells
        clear hcx hkx hcells
        generalize s.ids.getD k 0 = x at *
        subst hx
        go_wp2_with (first
    | ((with_reducible refine' Wl.out ?_; apply k_box (ty := 48) (y := (.tmp 0)) hS); (· exact .mk); clear hS; intro w4 b4 hS)
    | ((with_reducible refine' Wl.out ?_; apply k_alloc (ty := 48) (dst := some 12) hS); (· exact .mk); clear hS; intro w12 b12 hS)
    | ((with_reducible refine' Wl.out ?_; apply k_load hS); (· exact .mk))
    | ((with_reducible refine' Wl.out ?_; apply k_loads hS); (· exact .mk))
    | ((with_reducible refine' Wl.out ?_; apply k_store hS); (· exact .mk); clear hS; intro ws hS)
    | ((with_reducible refine' Wl.out ?_; apply k_storeR hS); (· exact .mk); clear hS; intro ws hS)
    | ((with_reducible refine' Wl.out ?_; apply k_stores hS); (· exact .mk); clear hS; intro ws hS))
        go_roundw
        case rel => exact ⟨k + 1, cells, m', hlt, by go_num, hle, hc, hS⟩
        case measure => simp [intOf]; omega
      · have hkv : k < s.vecs.length := by have := hvl.out; omega
        obtain ⟨bv, ov, qv, cv, rfl, hcv, hrd⟩ := HV.out.listAt k hkv
        have hcv' := hle.out _ _ (HLE.out _ _ hcv)
        have HX := Lib.hid (Lay.mono _ (HLE.out.trans hle.out) hrd)
        have hkz2 : (k : Int) < s.vecs.length := by omega
        have hfk : fineV (s.vecs.getD k []) := by
          rcases HM.out.1.2.2.2 k hlt with ⟨h1, _⟩ | ⟨_, _, h3, _⟩
          · exact absurd h1 hx
          · exact h3.1
        obtain ⟨g, rfl, g1, g2⟩ := row_head (hS.row 0 rfl) (by omega)
        obtain ⟨_, _, _, hk1, hset⟩ := vec_parts hcells.out k (by rw [trV_len]; exact hkv)
        have HL : Hid (k < cells.length) := (List.getElem?_eq_some_iff.1 hk1).1
        have hnext : trV way s (k + 1) = (trV way s k).set k (turnV way (s.vecs.getD k [])) := if_neg hx
        have HS : Hid (∀ (m'' : Mem) (v' : Value), m'.Le m'' → vecL.rd m'' [v'] (turnV way (s.vecs.getD k [])) → CellsOf vecL m'' (cells.set k v') (trV way s (k + 1))) := fun m'' v' a b => by
          rw [hnext]; exact hset m'' v' _ a b
        by_cases hw : 0 ≤ way ∧ way ≤ 4611686018427387903
        · have HE1 : Hid (turnR way (s.vecs.getD k []) = turnV way (s.vecs.getD k []) ∧ turnI way (s.vecs.getD k []) = 0) := ⟨if_pos ⟨hfk, hw.1, hw.2⟩, if_pos ⟨hfk, hw.1, hw.2⟩⟩
          clear hcx hkx hcv hrd hk1 hset hnext hfk hcells
          simp only [maxLen] at g2
          generalize s.ids.getD k 0 = x at *
          generalize s.vecs.getD k [] = vk at *
          go_wp2_with (first
    | (go_at_call 29; refine (turn_v _ _ hS.inw _ _ HX.out way).mono ?_; rintro e' w60 ⟨_, m60, rfl, ⟨q60, c60, T60, E60, hT60, hE60, rfl, R60⟩, hk⟩; replace hS := hS.call hk; have HLE60 := Lib.hid hk.le; clear hk; obtain rfl : E60 = 0 := hE60.out.trans HE1.out.2)
    | ((with_reducible refine' Wl.out ?_; apply k_storeR hS); (· exact .mk (hl := HL.out)); clear hS; intro ws hS)
    | ((with_reducible refine' Wl.out ?_; apply k_box (ty := 48) (y := (.tmp 0)) hS); (· exact .mk); clear hS; intro w4 b4 hS)
    | ((with_reducible refine' Wl.out ?_; apply k_alloc (ty := 48) (dst := some 12) hS); (· exact .mk); clear hS; intro w12 b12 hS)
    | ((with_reducible refine' Wl.out ?_; apply k_load hS); (· exact .mk))
    | ((with_reducible refine' Wl.out ?_; apply k_loads hS); (· exact .mk))
    | ((with_reducible refine' Wl.out ?_; apply k_store hS); (· exact .mk); clear hS; intro ws hS)
    | ((with_reducible refine' Wl.out ?_; apply k_storeR hS); (· exact .mk); clear hS; intro ws hS)
    | ((with_reducible refine' Wl.out ?_; apply k_stores hS); (· exact .mk); clear hS; intro ws hS))
          go_roundw
          case rel => exact ⟨k + 1, _, m60, hlt, by go_num, hle.out.trans HLE60.out, HS.out m60 _ HLE60.out (by have := R60.out; rw [hT60.out.trans HE1.out.1] at this ⊢; exact this), hS⟩
          case measure => simp [intOf]; omega
        · have HE1 : Hid (turnI way (s.vecs.getD k []) = 1) := if_neg fun h => hw h.2
          clear hcx hkx hcv hrd hk1 hset hnext hfk hcells HS
          generalize s.ids.getD k 0 = x at *
          generalize s.vecs.getD k [] = vk at *
          go_wp2_with (first
    | (go_at_call 29; refine (turn_v _ _ hS.inw _ _ HX.out way).mono ?_; rintro e' w60 ⟨_, m60, rfl, ⟨q60, c60, T60, E60, hT60, hE60, rfl, R60⟩, hk⟩; replace hS := hS.call hk; clear hk; obtain rfl : E60 = 1 := hE60.out.trans HE1.out)
    | ((with_reducible refine' Wl.out ?_; apply k_box (ty := 48) (y := (.tmp 0)) hS); (· exact .mk); clear hS; intro w4 b4 hS)
    | ((with_reducible refine' Wl.out ?_; apply k_alloc (ty := 48) (dst := some 12) hS); (· exact .mk); clear hS; intro w12 b12 hS)
    | ((with_reducible refine' Wl.out ?_; apply k_load hS); (· exact .mk))
    | ((with_reducible refine' Wl.out ?_; apply k_loads hS); (· exact .mk))
    | ((with_reducible refine' Wl.out ?_; apply k_store hS); (· exact .mk); clear hS; intro ws hS)
    | ((with_reducible refine' Wl.out ?_; apply k_storeR hS); (· exact .mk); clear hS; intro ws hS)
    | ((with_reducible refine' Wl.out ?_; apply k_stores hS); (· exact .mk); clear hS; intro ws hS))
          (first | (go_ret; exact ⟨rfl, hS.below⟩) | (go_ret; refine ⟨?_, hS.below⟩; simp; done))
    · obtain rfl : k = s.ids.length := by omega
      obtain ⟨m3, hS3, hle3, hrd3⟩ := St.settleRow' (L := vecL) (xs := trV way s s.ids.length) hS 0 (trV_len way s _) rfl hcells.out (by rw [trV_len]; exact HB2.out)
      have HSl : Hid (slL.rd m3 [.int .i64 (trS way s).dim, .slice p42 (trS way s).ids.length d42, .slice q42 (trS way s).vecs.length c42] (trS way s)) := by
        refine slL_mk (s := trS way s) HD.out (Lay.mono _ (hle.out.trans hle3) hrd42.out) ?_
        have e : (trS way s).vecs.length = s.vecs.length := trV_len way s _
        rw [e]; exact hrd3
      have eT1 : Hid ((trS way s).dim = s.dim ∧ (trS way s).ids.length = s.ids.length ∧ (trS way s).vecs.length = s.vecs.length) := ⟨rfl, rfl, trV_len way s _⟩
      have HQ := Lib.hid (Lay.mono _ (hle.out.trans hle3) A1'.out)
      have HR := Lib.hid (Lay.mono _ (hle.out.trans hle3) R35'.out)
      replace hS := hS3
      clear hS3 hrd3 hcells
      by_cases hw : turnE way q
      · have hq1 := HTq hw
        clear HTq HNq hw
        go_wp2_with (first
    | ((with_reducible refine' Wl.out ?_; apply k_box (ty := 48) (y := (.tmp 0)) hS); (· exact .mk); clear hS; intro w4 b4 hS)
    | ((with_reducible refine' Wl.out ?_; apply k_alloc (ty := 48) (dst := some 12) hS); (· exact .mk); clear hS; intro w12 b12 hS)
    | ((with_reducible refine' Wl.out ?_; apply k_load hS); (· exact .mk))
    | ((with_reducible refine' Wl.out ?_; apply k_loads hS); (· exact .mk))
    | ((with_reducible refine' Wl.out ?_; apply k_store hS); (· exact .mk); clear hS; intro ws hS)
    | ((with_reducible refine' Wl.out ?_; apply k_storeR hS); (· exact .mk); clear hS; intro ws hS)
    | ((with_reducible refine' Wl.out ?_; apply k_stores hS); (· exact .mk); clear hS; intro ws hS)
          | (go_at_call 29; refine (turn_v _ _ hS.inw _ _ HQ.out way).mono ?_; rintro e' w75 ⟨_, m75, rfl, ⟨q75, c75, T75, E75, hT75, hE75, rfl, R75⟩, hk⟩; replace hS := hS.call hk; replace HSl := Lib.hid (Lay.mono _ hk.le HSl.out); replace HR := Lib.hid (Lay.mono _ hk.le HR.out); clear hk; obtain rfl : E75 = 0 := hE75.out.trans hq1.out.2)
          | (go_at_call 26; rw [← eT1.out.1, ← eT1.out.2.1, ← eT1.out.2.2]; refine (brute_c _ _ hS.inw _ _ _ _ (trS way s) HSl.out _ T75 R75.out _).mono ?_; rintro e' w85 ⟨_, m85, rfl, ⟨p85, c85, Y85, E85, HY85, HE85, rfl, R85⟩, hk⟩; replace hS := hS.call hk; replace HR := Lib.hid (Lay.mono _ hk.le HR.out); clear hk; obtain rfl : E85 = 0 := HE85.out.trans (by rw [hT75.out, hq1.out.1]; exact HT1.out); have HSame : Hid (Y35 = Y85) := by (show _ = _; rw [HY35.out, HY85.out, hT75.out, hq1.out.1]; exact HT2.out.symm))
          | (go_at_call 15; refine (same16_c _ _ hS.inw _ _ _ _ HR.out R85.out).mono ?_; rintro e' w96 ⟨_, m96, rfl, hv96, hk⟩; replace hS := hS.call hk; clear hk; rw [decide_eq_true HSame.out] at hv96; subst hv96))
        (first | (go_ret; exact ⟨rfl, hS.below⟩) | (go_ret; refine ⟨?_, hS.below⟩; simp; done))
      · have hq1 := HNq hw
        clear HTq HNq hw
        go_wp2_with (first
    | ((with_reducible refine' Wl.out ?_; apply k_box (ty := 48) (y := (.tmp 0)) hS); (· exact .mk); clear hS; intro w4 b4 hS)
    | ((with_reducible refine' Wl.out ?_; apply k_alloc (ty := 48) (dst := some 12) hS); (· exact .mk); clear hS; intro w12 b12 hS)
    | ((with_reducible refine' Wl.out ?_; apply k_load hS); (· exact .mk))
    | ((with_reducible refine' Wl.out ?_; apply k_loads hS); (· exact .mk))
    | ((with_reducible refine' Wl.out ?_; apply k_store hS); (· exact .mk); clear hS; intro ws hS)
    | ((with_reducible refine' Wl.out ?_; apply k_storeR hS); (· exact .mk); clear hS; intro ws hS)
    | ((with_reducible refine' Wl.out ?_; apply k_stores hS); (· exact .mk); clear hS; intro ws hS)
          | (go_at_call 29; refine (turn_v _ _ hS.inw _ _ HQ.out way).mono ?_; rintro e' w75 ⟨_, m75, rfl, ⟨q75, c75, T75, E75, hT75, hE75, rfl, R75⟩, hk⟩; replace hS := hS.call hk; clear hk; obtain rfl : E75 = 1 := hE75.out.trans hq1.out))
        (first | (go_ret; exact ⟨rfl, hS.below⟩) | (go_ret; refine ⟨?_, hS.below⟩; simp; done))
end Go.Proofs.Ytlkdjmpkapeppaa
