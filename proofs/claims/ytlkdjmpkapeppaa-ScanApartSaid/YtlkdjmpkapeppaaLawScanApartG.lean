/- The walk of ScanApart. -/
import Derived.Test.YtlkdjmpkapeppaaSl4G
import Derived.Test.YtlkdjmpkapeppaaApHG
namespace Go.Proofs.Ytlkdjmpkapeppaa
set_option linter.unusedVariables false
set_option linter.unusedSimpArgs false
open Go.RowKit Go.Shelf
theorem filt_succ {Y : List Hit} {z : Int} {j : Nat} (h : j < Y.length) : (Y.take (j + 1)).filter (fun x => decide (x.id ≠ z)) = if (Y.getD j hz).id = z then (Y.take j).filter (fun x => decide (x.id ≠ z)) else (Y.take j).filter (fun x => decide (x.id ≠ z)) ++ [Y.getD j hz] := by
  have e : Y.getD j hz = Y[j] := by simp [List.getD, h]
  rw [e, List.take_succ_eq_append_getElem h, List.filter_append]
  by_cases hx : Y[j].id = z
  · rw [if_pos hx, List.filter_cons_of_neg (by simp [hx])]; simp
  · rw [if_neg hx, List.filter_cons_of_pos (by simpa using hx)]; simp
theorem hitAtRow {m : Mem} {p : Option Addr} {Y : List Hit} (h : Row hitL m p Y) (j : Nat) (hj : j < Y.length) : ∃ b o, p = some ⟨b, o, none⟩ ∧ ∀ i v, [Value.int .i64 (Y.getD j hz).dist, .int .i64 (Y.getD j hz).id][i]? = some v → m ⟨b, o + j * 2 + i, none⟩ = some v := by
  obtain ⟨b, o, cs, hp, hcs, hc⟩ := h.get j hj
  obtain ⟨rfl, _, _⟩ := hitL_open hcs
  have e : Y.getD j hz = Y[j] := by simp [List.getD, hj]
  rw [e]
  exact ⟨b, o, hp, hc⟩
set_option maxRecDepth 100000 in
set_option maxHeartbeats 8000000 in
theorem walkScanApart (w : World) (vs : Value) (s : Sl) (hs : ∃ q1 c1 q2 c2, vs = .agg #[.int .i64 s.dim, .slice q1 s.ids.length c1, .slice q2 s.vecs.length c2] ∧ slL.rd (World.mem w) [.int .i64 s.dim, .slice q1 s.ids.length c1, .slice q2 s.vecs.length c2] s) (vq : Value) (q : List Int) (hq : vecL.rd (World.mem w) [vq] q) (K : Int) (hk : (Lit.int .i64 K).wf = true) (z : Int) (hz : (Lit.int .i64 z).wf = true) :
    Calls Try.prog 10 #[vs, vq, .int .i64 K, .int .i64 z] w fun e w' => e = .returned (.bool true) ∧ Below w.heap.size w w' := by
  obtain ⟨q1, c1, q2, c2, rfl, hs⟩ := hs
  have hS := St.start (World.mem_in w)
  have A0 := Lib.hid hs
  have A1 := Lib.hid hq
  have HZ : Hid (InK .i64 z) := by simp [Lit.wf] at hz; exact hz
  obtain ⟨p, c, rfl, _⟩ := Lay.list_open hq
  clear hs hq hk hz
  by_cases hgo : ¬ (mayP s q K ∧ fiE s z = 0)
  · have hcase : mayE s q K = 1 ∨ (mayE s q K = 0 ∧ fiE s z = 1) ∨ (mayE s q K = 0 ∧ fiE s z = 5) := by
      by_cases hm : mayP s q K
      · have hn : ¬ fiE s z = 0 := fun h => hgo ⟨hm, h⟩
        have hx : fiE s z = 1 ∨ fiE s z = 5 := by
          unfold fiE at hn ⊢
          split
          · rename_i h1
            rw [if_pos h1] at hn
            split
            · rename_i h2; rw [if_pos h2] at hn; exact absurd rfl hn
            · exact .inr rfl
          · exact .inl rfl
        rcases hx with hx | hx
        · exact .inr (.inl ⟨if_pos hm, hx⟩)
        · exact .inr (.inr ⟨if_pos hm, hx⟩)
      · exact .inl (if_neg hm)
    clear hgo
    rcases hcase with h1 | ⟨h1, h2⟩ | ⟨h1, h2⟩
    · have H1 := Lib.hid h1
      clear h1
      obtain ⟨F, hF⟩ : ∃ F, fiE s z = F := ⟨_, rfl⟩
      have HF := Lib.hid hF
      clear hF
      go_enter Try.func10, Try.ntmps10
      go_wp2_with (first
    | ((with_reducible refine' Wl.out ?_; apply k_box (ty := 48) (y := (.tmp 0)) hS); (· exact .mk); clear hS; intro w4 b4 hS)
    | ((with_reducible refine' Wl.out ?_; apply k_alloc (ty := 48) (dst := some 15) hS); (· exact .mk); clear hS; intro w15 b15 hS)
    | ((with_reducible refine' Wl.out ?_; apply k_alloc (ty := 30) (dst := some 21) hS); (· exact .mk); clear hS; intro w21 b21 hS)
    | ((with_reducible refine' Wl.out ?_; apply k_alloc (ty := 30) (dst := some 24) hS); (· exact .mk); clear hS; intro w24 b24 hS)
    | ((with_reducible refine' Wl.out ?_; apply k_load hS); (· exact .mk))
    | ((with_reducible refine' Wl.out ?_; apply k_loads hS); (· exact .mk))
    | go_skip
    | ((with_reducible refine' Wl.out ?_; apply kg_load hS); iterate 2 (· exact .mk))
    | ((with_reducible refine' Wl.out ?_; apply kg_loads hS); iterate 2 (· exact .mk))
    | ((with_reducible refine' Wl.out ?_; refine' wg_case ?_ ?_) <;> (intro hgW; (try (have hg2 := hgW; simp [go_sem] at hg2)); (first | (exfalso; assumption) | ((with_reducible refine' Wl.out ?_; apply k_no hgW)) | ((with_reducible refine' Wl.out ?_; apply kg_load hS ⟨hgW⟩); (· exact .mk)) | ((with_reducible refine' Wl.out ?_; apply kg_loads hS ⟨hgW⟩); (· exact .mk))); clear hgW))
    | ((with_reducible refine' Wl.out ?_; apply k_stores hS); (· exact .mk); clear hS; intro ws hS)
        | (go_at_call 24; refine (live17_c _ _ hS.inw).mono ?_; rintro e' w25 ⟨_, m25, rfl, rfl, hk⟩; replace hS := hS.grow (grownBy_of_below hk.below); clear hk)
      | (go_at_call 25; refine (few17_nil _ _ hS.inw _ _ _ _ s A0.out _ q A1.out).mono ?_; rintro e' w32 ⟨_, m32, rfl, ⟨B, rfl⟩, hk⟩; replace hS := hS.grow (grownBy_of_below hk.below); clear hk; cases B)
        | (go_at_call 26; (fail_if_success (clear Mk39)); refine (brute_c _ _ hS.inw _ _ _ _ s A0.out _ q A1.out _).mono ?_; rintro e' w39 ⟨_, m39, rfl, ⟨p39, c39, Y39, E39, HY39, HE39, rfl, R39⟩, hk⟩; replace hS := hS.call hk; replace A0 := Lib.hid (Lay.mono _ hk.le A0.out); replace A1 := Lib.hid (Lay.mono _ hk.le A1.out); clear hk; have Mk39 := True.intro; obtain rfl := HE39.out.trans H1.out)
        | (go_at_call 26; (have Mk39' := Mk39; clear Mk39'); (fail_if_success (clear Mk47)); refine (brute_c _ _ hS.inw _ _ _ _ s A0.out _ q A1.out _).mono ?_; rintro e' w47 ⟨_, m47, rfl, ⟨p47, c47, Y47, E47, HY47, HE47, rfl, R47⟩, hk⟩; replace hS := hS.call hk; replace A0 := Lib.hid (Lay.mono _ hk.le A0.out); replace A1 := Lib.hid (Lay.mono _ hk.le A1.out); clear hk; have Mk47 := True.intro; skip)
        | (go_at_call 30; refine (del_c _ _ hS.inw _ _ _ _ s A0.out z HZ.out).mono ?_; rintro e' w53 ⟨_, m53, rfl, ⟨T, p53, d53, p54, d54, hT, rfl, hrd53⟩, hk⟩; replace hS := hS.call hk; replace A0 := Lib.hid (Lay.mono _ hk.le A0.out); replace A1 := Lib.hid (Lay.mono _ hk.le A1.out); clear hk; rw [HF.out]))
      all_goals (first | (go_ret; exact ⟨rfl, hS.below⟩) | (go_ret; refine ⟨?_, hS.below⟩; simp; done))
    all_goals
      have H1 := Lib.hid h1
      have HF := Lib.hid h2
      clear h1 h2
      go_enter Try.func10, Try.ntmps10
      go_wp2_with (first
    | ((with_reducible refine' Wl.out ?_; apply k_box (ty := 48) (y := (.tmp 0)) hS); (· exact .mk); clear hS; intro w4 b4 hS)
    | ((with_reducible refine' Wl.out ?_; apply k_alloc (ty := 48) (dst := some 15) hS); (· exact .mk); clear hS; intro w15 b15 hS)
    | ((with_reducible refine' Wl.out ?_; apply k_alloc (ty := 30) (dst := some 21) hS); (· exact .mk); clear hS; intro w21 b21 hS)
    | ((with_reducible refine' Wl.out ?_; apply k_alloc (ty := 30) (dst := some 24) hS); (· exact .mk); clear hS; intro w24 b24 hS)
    | ((with_reducible refine' Wl.out ?_; apply k_load hS); (· exact .mk))
    | ((with_reducible refine' Wl.out ?_; apply k_loads hS); (· exact .mk))
    | go_skip
    | ((with_reducible refine' Wl.out ?_; apply kg_load hS); iterate 2 (· exact .mk))
    | ((with_reducible refine' Wl.out ?_; apply kg_loads hS); iterate 2 (· exact .mk))
    | ((with_reducible refine' Wl.out ?_; refine' wg_case ?_ ?_) <;> (intro hgW; (try (have hg2 := hgW; simp [go_sem] at hg2)); (first | (exfalso; assumption) | ((with_reducible refine' Wl.out ?_; apply k_no hgW)) | ((with_reducible refine' Wl.out ?_; apply kg_load hS ⟨hgW⟩); (· exact .mk)) | ((with_reducible refine' Wl.out ?_; apply kg_loads hS ⟨hgW⟩); (· exact .mk))); clear hgW))
    | ((with_reducible refine' Wl.out ?_; apply k_stores hS); (· exact .mk); clear hS; intro ws hS)
        | (go_at_call 24; refine (live17_c _ _ hS.inw).mono ?_; rintro e' w25 ⟨_, m25, rfl, rfl, hk⟩; replace hS := hS.grow (grownBy_of_below hk.below); clear hk)
      | (go_at_call 25; refine (few17_nil _ _ hS.inw _ _ _ _ s A0.out _ q A1.out).mono ?_; rintro e' w32 ⟨_, m32, rfl, ⟨B, rfl⟩, hk⟩; replace hS := hS.grow (grownBy_of_below hk.below); clear hk; cases B)
        | (go_at_call 26; (fail_if_success (clear Mk39)); refine (brute_c _ _ hS.inw _ _ _ _ s A0.out _ q A1.out _).mono ?_; rintro e' w39 ⟨_, m39, rfl, ⟨p39, c39, Y39, E39, HY39, HE39, rfl, R39⟩, hk⟩; replace hS := hS.call hk; replace A0 := Lib.hid (Lay.mono _ hk.le A0.out); replace A1 := Lib.hid (Lay.mono _ hk.le A1.out); clear hk; have Mk39 := True.intro; obtain rfl := HE39.out.trans H1.out)
        | (go_at_call 26; (have Mk39' := Mk39; clear Mk39'); (fail_if_success (clear Mk47)); refine (brute_c _ _ hS.inw _ _ _ _ s A0.out _ q A1.out _).mono ?_; rintro e' w47 ⟨_, m47, rfl, ⟨p47, c47, Y47, E47, HY47, HE47, rfl, R47⟩, hk⟩; replace hS := hS.call hk; replace A0 := Lib.hid (Lay.mono _ hk.le A0.out); replace A1 := Lib.hid (Lay.mono _ hk.le A1.out); clear hk; have Mk47 := True.intro; skip)
        | (go_at_call 30; refine (del_c _ _ hS.inw _ _ _ _ s A0.out z HZ.out).mono ?_; rintro e' w53 ⟨_, m53, rfl, ⟨T, p53, d53, p54, d54, hT, rfl, hrd53⟩, hk⟩; replace hS := hS.call hk; replace A0 := Lib.hid (Lay.mono _ hk.le A0.out); replace A1 := Lib.hid (Lay.mono _ hk.le A1.out); clear hk; rw [HF.out]))
      all_goals (first | (go_ret; exact ⟨rfl, hS.below⟩) | (go_ret; refine ⟨?_, hS.below⟩; simp; done))
  obtain ⟨hm, hf⟩ := Classical.not_not.1 hgo
  obtain ⟨hd, i, hi, e1, e2, e3⟩ := fiE_ok hf
  clear hgo
  have hx : s.ids.getD i 0 ≠ -1 := by rw [e2]; exact e3
  have hDel : delR s z = delS s i := by unfold delR; rw [if_pos hf, e1]; rfl
  obtain ⟨L1, L2, L3⟩ := apart_law hm hi hx
  rw [e2] at L1 L2 L3
  rw [← hDel] at L1 L2 L3
  have H1 : Hid (mayE s q K = 0) := if_pos hm
  have HM2 : Hid (mayE (delR s z) q K = 0) := by show _ = _; rw [hDel]; exact if_pos (may_del hm hi)
  have zK : IntKind.i64.wrap (K + 1) = K + 1 := by
    have := hm.1.2.1.2
    have := hm.2.2.2
    exact wr64 (by omega) (by omega)
  have HF := Lib.hid hf
  have hK256 : K ≤ 256 := by
    have := hm.1.2.1.2
    have := hm.2.2.2
    omega
  have hYl : (bruteR s q K).length ≤ 256 := by
    have : bruteR s q K = near K.toNat (hitsOf s q s.ids.length) := if_pos hm
    rw [this]
    have := near_len K.toNat (hitsOf s q s.ids.length)
    omega
  have hYl2 : (bruteR s q (K + 1)).length ≤ 257 := by
    unfold bruteR
    split
    · have := near_len (K + 1).toNat (hitsOf s q s.ids.length); omega
    · simp
  have HL1 := Lib.hid L1
  have HL2 := Lib.hid L2
  have HL3 := Lib.hid L3
  have HYl := Lib.hid hYl
  have HYl2 := Lib.hid hYl2
  have HE2 : Hid ((mayP s q (K + 1) ∧ mayE s q (K + 1) = 0) ∨ (¬ mayP s q (K + 1) ∧ mayE s q (K + 1) = 1)) := by
    by_cases h : mayP s q (K + 1)
    · exact .inl ⟨h, if_pos h⟩
    · exact .inr ⟨h, if_neg h⟩
  clear L1 L2 L3 hm hf hd hi e1 e2 e3 hx hDel hYl hYl2
  go_enter Try.func10, Try.ntmps10
  go_wp2_with (first
    | ((with_reducible refine' Wl.out ?_; apply k_box (ty := 48) (y := (.tmp 0)) hS); (· exact .mk); clear hS; intro w4 b4 hS)
    | ((with_reducible refine' Wl.out ?_; apply k_alloc (ty := 48) (dst := some 15) hS); (· exact .mk); clear hS; intro w15 b15 hS)
    | ((with_reducible refine' Wl.out ?_; apply k_alloc (ty := 30) (dst := some 21) hS); (· exact .mk); clear hS; intro w21 b21 hS)
    | ((with_reducible refine' Wl.out ?_; apply k_alloc (ty := 30) (dst := some 24) hS); (· exact .mk); clear hS; intro w24 b24 hS)
    | ((with_reducible refine' Wl.out ?_; apply k_load hS); (· exact .mk))
    | ((with_reducible refine' Wl.out ?_; apply k_loads hS); (· exact .mk))
    | go_skip
    | ((with_reducible refine' Wl.out ?_; apply kg_load hS); iterate 2 (· exact .mk))
    | ((with_reducible refine' Wl.out ?_; apply kg_loads hS); iterate 2 (· exact .mk))
    | ((with_reducible refine' Wl.out ?_; refine' wg_case ?_ ?_) <;> (intro hgW; (try (have hg2 := hgW; simp [go_sem] at hg2)); (first | (exfalso; assumption) | ((with_reducible refine' Wl.out ?_; apply k_no hgW)) | ((with_reducible refine' Wl.out ?_; apply kg_load hS ⟨hgW⟩); (· exact .mk)) | ((with_reducible refine' Wl.out ?_; apply kg_loads hS ⟨hgW⟩); (· exact .mk))); clear hgW))
    | ((with_reducible refine' Wl.out ?_; apply k_stores hS); (· exact .mk); clear hS; intro ws hS)
    | (go_at_call 24; refine (live17_c _ _ hS.inw).mono ?_; rintro e' w25 ⟨_, m25, rfl, rfl, hk⟩; replace hS := hS.grow (grownBy_of_below hk.below); clear hk)
      | (go_at_call 25; refine (few17_nil _ _ hS.inw _ _ _ _ s A0.out _ q A1.out).mono ?_; rintro e' w32 ⟨_, m32, rfl, ⟨B, rfl⟩, hk⟩; replace hS := hS.grow (grownBy_of_below hk.below); clear hk; cases B)
    | (go_at_call 26; (fail_if_success (clear Mk39)); refine (brute_c _ _ hS.inw _ _ _ _ s A0.out _ q A1.out _).mono ?_; rintro e' w39 ⟨_, m39, rfl, ⟨p39, c39, Y39, E39, HY39, HE39, rfl, R39⟩, hk⟩; replace hS := hS.call hk; replace A0 := Lib.hid (Lay.mono _ hk.le A0.out); replace A1 := Lib.hid (Lay.mono _ hk.le A1.out); (try replace R39 := Lib.hid (Lay.mono _ hk.le R39.out)); (try replace R47 := Lib.hid (Lay.mono _ hk.le R47.out)); clear hk; have Mk39 := True.intro; obtain rfl := HE39.out.trans H1.out)
    | (go_at_call 26; (have Mk39' := Mk39; clear Mk39'); (fail_if_success (clear Mk47)); refine (brute_c _ _ hS.inw _ _ _ _ s A0.out _ q A1.out _).mono ?_; rintro e' w47 ⟨_, m47, rfl, ⟨p47, c47, Y47, E47, HY47, HE47, rfl, R47⟩, hk⟩; replace hS := hS.call hk; replace A0 := Lib.hid (Lay.mono _ hk.le A0.out); replace A1 := Lib.hid (Lay.mono _ hk.le A1.out); (try replace R39 := Lib.hid (Lay.mono _ hk.le R39.out)); (try replace R47 := Lib.hid (Lay.mono _ hk.le R47.out)); clear hk; have Mk47 := True.intro)
    | (go_at_call 30; refine (del_c _ _ hS.inw _ _ _ _ s A0.out z HZ.out).mono ?_; rintro e' w53 ⟨_, m53, rfl, ⟨T, p53, d53, p54, d54, hT, rfl, hrd53⟩, hk⟩; replace hS := hS.call hk; replace A0 := Lib.hid (Lay.mono _ hk.le A0.out); replace A1 := Lib.hid (Lay.mono _ hk.le A1.out); (try replace R39 := Lib.hid (Lay.mono _ hk.le R39.out)); (try replace R47 := Lib.hid (Lay.mono _ hk.le R47.out)); clear hk; rw [HF.out])
    | (go_at_call 26; (have Mk47' := Mk47; clear Mk47'); (fail_if_success (clear Mk68)); refine (brute_c _ _ hS.inw _ _ _ _ T hrd53.out _ q A1.out _).mono ?_; rintro e' w68 ⟨_, m68, rfl, ⟨p68, c68, Y68, E68, HY68, HE68, rfl, R68⟩, hk⟩; replace hS := hS.call hk; replace A0 := Lib.hid (Lay.mono _ hk.le A0.out); replace A1 := Lib.hid (Lay.mono _ hk.le A1.out); (try replace R39 := Lib.hid (Lay.mono _ hk.le R39.out)); (try replace R47 := Lib.hid (Lay.mono _ hk.le R47.out)); clear hk; have Mk68 := True.intro; obtain rfl : E68 = 0 := HE68.out.trans (by rw [hT.out]; exact HM2.out)))
  · (first | (go_ret; exact ⟨rfl, hS.below⟩) | (go_ret; refine ⟨?_, hS.below⟩; simp; done))
  have hl39 : Y39.length ≤ 256 := by rw [HY39.out]; exact HYl.out
  have hl47 : Y47.length ≤ 257 := by rw [HY47.out]; exact HYl2.out
  obtain ⟨_, _, e39, _, _, _, r39⟩ := Lay.list_open R39.out
  cases e39
  have HR39 := Lib.hid r39
  obtain ⟨_, _, e47, _, _, _, r47⟩ := Lay.list_open R47.out
  cases e47
  have HR47 := Lib.hid r47
  have HHits := Lib.hid (hits_in R47.out)
  clear r39 r47
  go_loopw [19, 75] (fun vb vi wr => ∃ j : Nat, j ≤ Y39.length ∧ vb = .bool (decide (z ∈ (Y39.take j).map Hit.id)) ∧ vi = .int .i64 j ∧ St [] w (World.mem w) wr [.box b15 [.int .i64 T.dim, .slice p53 T.ids.length d53, .slice p54 T.vecs.length d54], .box b4 [.int .i64 s.dim, .slice q1 s.ids.length c1, .slice q2 s.vecs.length c2]] m68) (fun _ vi _ => Y39.length - (intOf vi).toNat)
  case atStart => exact ⟨0, Nat.zero_le _, by simp, rfl, hS⟩
  case round =>
    clear hS
    obtain ⟨j, hj, rfl, rfl, hS⟩ := hrel
    by_cases hlt : j < Y39.length
    · obtain ⟨b2, o2, rfl, hcy⟩ := hitAtRow HR39.out j hlt
      have hjz : (j : Int) < Y39.length := by omega
      have hs2 : Hid (decide (z ∈ (Y39.take (j + 1)).map Hit.id) = (decide (z ∈ (Y39.take j).map Hit.id) || decide ((Y39.getD j hz).id = z))) := by
        show _ = _
        have e : Y39.getD j hz = Y39[j] := by simp [List.getD, hlt]
        rw [e, List.take_succ_eq_append_getElem hlt, Bool.eq_iff_iff]
        simp only [decide_eq_true_eq, List.map_append, List.mem_append, Bool.or_eq_true, List.map_cons, List.map_nil, List.mem_singleton]
        exact or_congr Iff.rfl eq_comm
      generalize decide (z ∈ (Y39.take j).map Hit.id) = B at *
      generalize Y39.getD j hz = y at *
      cases B
      all_goals
        by_cases e2 : y.id = z
        all_goals
          go_wp2_with (first
    | ((with_reducible refine' Wl.out ?_; apply k_box (ty := 48) (y := (.tmp 0)) hS); (· exact .mk); clear hS; intro w4 b4 hS)
    | ((with_reducible refine' Wl.out ?_; apply k_alloc (ty := 48) (dst := some 15) hS); (· exact .mk); clear hS; intro w15 b15 hS)
    | ((with_reducible refine' Wl.out ?_; apply k_alloc (ty := 30) (dst := some 21) hS); (· exact .mk); clear hS; intro w21 b21 hS)
    | ((with_reducible refine' Wl.out ?_; apply k_alloc (ty := 30) (dst := some 24) hS); (· exact .mk); clear hS; intro w24 b24 hS)
    | ((with_reducible refine' Wl.out ?_; apply k_load hS); (· exact .mk))
    | ((with_reducible refine' Wl.out ?_; apply k_loads hS); (· exact .mk))
    | go_skip
    | ((with_reducible refine' Wl.out ?_; apply kg_load hS); iterate 2 (· exact .mk))
    | ((with_reducible refine' Wl.out ?_; apply kg_loads hS); iterate 2 (· exact .mk))
    | ((with_reducible refine' Wl.out ?_; refine' wg_case ?_ ?_) <;> (intro hgW; (try (have hg2 := hgW; simp [go_sem] at hg2)); (first | (exfalso; assumption) | ((with_reducible refine' Wl.out ?_; apply k_no hgW)) | ((with_reducible refine' Wl.out ?_; apply kg_load hS ⟨hgW⟩); (· exact .mk)) | ((with_reducible refine' Wl.out ?_; apply kg_loads hS ⟨hgW⟩); (· exact .mk))); clear hgW))
    | ((with_reducible refine' Wl.out ?_; apply k_stores hS); (· exact .mk); clear hS; intro ws hS)
    | fail)
          go_roundw
          case rel => exact ⟨j + 1, hlt, (by rw [hs2.out]; simp [e2]), by go_num, hS.forget (x := .box b21 _) (by (repeat constructor))⟩
          case measure => simp [intOf]; omega
    · obtain rfl : j = Y39.length := by omega
      rw [List.take_length]
      have hmE : Hid (∀ B, decide (z ∈ Y39.map Hit.id) = B → (B = true → z ∈ (bruteR s q K).map Hit.id) ∧ (B = false → z ∉ (bruteR s q K).map Hit.id)) := fun B hB => by
        rw [HY39.out] at hB
        subst hB
        exact ⟨of_decide_eq_true, of_decide_eq_false⟩
      cases hB : decide (z ∈ Y39.map Hit.id) with
      | false =>
        have hno := (hmE.out _ hB).2 rfl
        have HSame : Hid (Y68 = Y39) := by show _ = _; rw [HY68.out, HY39.out, hT.out]; exact HL1.out hno
        clear hB hmE hno
        go_wp2_with (first
    | ((with_reducible refine' Wl.out ?_; apply k_box (ty := 48) (y := (.tmp 0)) hS); (· exact .mk); clear hS; intro w4 b4 hS)
    | ((with_reducible refine' Wl.out ?_; apply k_alloc (ty := 48) (dst := some 15) hS); (· exact .mk); clear hS; intro w15 b15 hS)
    | ((with_reducible refine' Wl.out ?_; apply k_alloc (ty := 30) (dst := some 21) hS); (· exact .mk); clear hS; intro w21 b21 hS)
    | ((with_reducible refine' Wl.out ?_; apply k_alloc (ty := 30) (dst := some 24) hS); (· exact .mk); clear hS; intro w24 b24 hS)
    | ((with_reducible refine' Wl.out ?_; apply k_load hS); (· exact .mk))
    | ((with_reducible refine' Wl.out ?_; apply k_loads hS); (· exact .mk))
    | go_skip
    | ((with_reducible refine' Wl.out ?_; apply kg_load hS); iterate 2 (· exact .mk))
    | ((with_reducible refine' Wl.out ?_; apply kg_loads hS); iterate 2 (· exact .mk))
    | ((with_reducible refine' Wl.out ?_; refine' wg_case ?_ ?_) <;> (intro hgW; (try (have hg2 := hgW; simp [go_sem] at hg2)); (first | (exfalso; assumption) | ((with_reducible refine' Wl.out ?_; apply k_no hgW)) | ((with_reducible refine' Wl.out ?_; apply kg_load hS ⟨hgW⟩); (· exact .mk)) | ((with_reducible refine' Wl.out ?_; apply kg_loads hS ⟨hgW⟩); (· exact .mk))); clear hgW))
    | ((with_reducible refine' Wl.out ?_; apply k_stores hS); (· exact .mk); clear hS; intro ws hS)
          | (go_at_call 15; refine (same16_c _ _ hS.inw _ _ _ _ R68.out R39.out).mono ?_; rintro e' w93 ⟨_, m93, rfl, hv93, hk⟩; replace hS := hS.call hk; clear hk; rw [decide_eq_true HSame.out] at hv93; subst hv93))
        (first | (go_ret; exact ⟨rfl, hS.below⟩) | (go_ret; refine ⟨?_, hS.below⟩; simp; done))
      | true =>
        have hyes := (hmE.out _ hB).1 rfl
        rcases HE2.out with ⟨hp, hq2⟩ | ⟨hp, hq2⟩
        · have HW : Hid (Y68 = Y47.filter fun x => decide (x.id ≠ z)) := by show _ = _; rw [HY68.out, HY47.out, hT.out]; exact HL3.out hyes hp
          obtain rfl := HE47.out.trans hq2
          clear hB hmE hyes hp hq2
          go_wp2_with (first
    | ((with_reducible refine' Wl.out ?_; apply k_box (ty := 48) (y := (.tmp 0)) hS); (· exact .mk); clear hS; intro w4 b4 hS)
    | ((with_reducible refine' Wl.out ?_; apply k_alloc (ty := 48) (dst := some 15) hS); (· exact .mk); clear hS; intro w15 b15 hS)
    | ((with_reducible refine' Wl.out ?_; apply k_alloc (ty := 30) (dst := some 21) hS); (· exact .mk); clear hS; intro w21 b21 hS)
    | ((with_reducible refine' Wl.out ?_; apply k_alloc (ty := 30) (dst := some 24) hS); (· exact .mk); clear hS; intro w24 b24 hS)
    | ((with_reducible refine' Wl.out ?_; apply k_load hS); (· exact .mk))
    | ((with_reducible refine' Wl.out ?_; apply k_loads hS); (· exact .mk))
    | go_skip
    | ((with_reducible refine' Wl.out ?_; apply kg_load hS); iterate 2 (· exact .mk))
    | ((with_reducible refine' Wl.out ?_; apply kg_loads hS); iterate 2 (· exact .mk))
    | ((with_reducible refine' Wl.out ?_; refine' wg_case ?_ ?_) <;> (intro hgW; (try (have hg2 := hgW; simp [go_sem] at hg2)); (first | (exfalso; assumption) | ((with_reducible refine' Wl.out ?_; apply k_no hgW)) | ((with_reducible refine' Wl.out ?_; apply kg_load hS ⟨hgW⟩); (· exact .mk)) | ((with_reducible refine' Wl.out ?_; apply kg_loads hS ⟨hgW⟩); (· exact .mk))); clear hgW))
    | ((with_reducible refine' Wl.out ?_; apply k_stores hS); (· exact .mk); clear hS; intro ws hS))
          have hS0 := hS.nilRow 30 2
          clear hS
          go_loopw [22, 108] (fun vl vi wr => ∃ (j : Nat) (qw : Option Addr) (cw : Nat), j ≤ Y47.length ∧ vl = .slice qw ((Y47.take j).filter fun x => decide (x.id ≠ z)).length cw ∧ vi = .int .i64 j ∧ St [] w (World.mem w) wr [rowQ qw cw ((Y47.take j).filter fun x => decide (x.id ≠ z)).length (cellsH ((Y47.take j).filter fun x => decide (x.id ≠ z))), .box b15 [.int .i64 T.dim, .slice p53 T.ids.length d53, .slice p54 T.vecs.length d54], .box b4 [.int .i64 s.dim, .slice q1 s.ids.length c1, .slice q2 s.vecs.length c2]] m68) (fun _ vi _ => Y47.length - (intOf vi).toNat)
          case atStart => exact ⟨0, none, 0, Nat.zero_le _, by simp, rfl, by simpa [cellsH] using hS0⟩
          case round =>
            clear hS0
            obtain ⟨j, qw, cw, hj, rfl, rfl, hS⟩ := hrel
            by_cases hlt : j < Y47.length
            · obtain ⟨b2, o2, rfl, hcy⟩ := hitAtRow HR47.out j hlt
              have hjz : (j : Int) < Y47.length := by omega
              have hs2 := Lib.hid (filt_succ (z := z) hlt)
              have hWl : ((Y47.take j).filter fun x => decide (x.id ≠ z)).length ≤ 257 := Nat.le_trans (List.length_filter_le _ _) (by rw [List.length_take]; omega)
              generalize ((Y47.take j).filter fun x => decide (x.id ≠ z)) = W at *
              generalize Y47.getD j hz = y at *
              have hb100 : W.length ≤ 100000 := by omega
              clear hWl
              by_cases e2 : y.id = z
              · have e3 := hs2.out
                rw [if_pos e2] at e3
                have H3 := Lib.hid e3
                clear hs2 e3
                have hne : (y.id != z) = false := by simp [e2]
                go_wp2_with (first
    | ((with_reducible refine' Wl.out ?_; apply k_box (ty := 48) (y := (.tmp 0)) hS); (· exact .mk); clear hS; intro w4 b4 hS)
    | ((with_reducible refine' Wl.out ?_; apply k_alloc (ty := 48) (dst := some 15) hS); (· exact .mk); clear hS; intro w15 b15 hS)
    | ((with_reducible refine' Wl.out ?_; apply k_alloc (ty := 30) (dst := some 21) hS); (· exact .mk); clear hS; intro w21 b21 hS)
    | ((with_reducible refine' Wl.out ?_; apply k_alloc (ty := 30) (dst := some 24) hS); (· exact .mk); clear hS; intro w24 b24 hS)
    | ((with_reducible refine' Wl.out ?_; apply k_load hS); (· exact .mk))
    | ((with_reducible refine' Wl.out ?_; apply k_loads hS); (· exact .mk))
    | go_skip
    | ((with_reducible refine' Wl.out ?_; apply kg_load hS); iterate 2 (· exact .mk))
    | ((with_reducible refine' Wl.out ?_; apply kg_loads hS); iterate 2 (· exact .mk))
    | ((with_reducible refine' Wl.out ?_; refine' wg_case ?_ ?_) <;> (intro hgW; (try (have hg2 := hgW; simp [go_sem] at hg2)); (first | (exfalso; assumption) | ((with_reducible refine' Wl.out ?_; apply k_no hgW)) | ((with_reducible refine' Wl.out ?_; apply kg_load hS ⟨hgW⟩); (· exact .mk)) | ((with_reducible refine' Wl.out ?_; apply kg_loads hS ⟨hgW⟩); (· exact .mk))); clear hgW))
    | ((with_reducible refine' Wl.out ?_; apply k_stores hS); (· exact .mk); clear hS; intro ws hS))
                go_roundw
                case rel => exact ⟨j + 1, qw, cw, hlt, by rw [H3.out], by go_num, by rw [H3.out]; exact hS.forget (x := .box b24 _) (by (repeat constructor))⟩
                case measure => simp [intOf]; omega
              · have e3 := hs2.out
                rw [if_neg e2] at e3
                have H3 := Lib.hid e3
                clear hs2 e3
                have hne : (y.id != z) = true := by simp [e2]
                go_wp2_with (first
    | ((with_reducible refine' Wl.out ?_; apply k_box (ty := 48) (y := (.tmp 0)) hS); (· exact .mk); clear hS; intro w4 b4 hS)
    | ((with_reducible refine' Wl.out ?_; apply k_alloc (ty := 48) (dst := some 15) hS); (· exact .mk); clear hS; intro w15 b15 hS)
    | ((with_reducible refine' Wl.out ?_; apply k_alloc (ty := 30) (dst := some 21) hS); (· exact .mk); clear hS; intro w21 b21 hS)
    | ((with_reducible refine' Wl.out ?_; apply k_alloc (ty := 30) (dst := some 24) hS); (· exact .mk); clear hS; intro w24 b24 hS)
    | ((with_reducible refine' Wl.out ?_; apply k_load hS); (· exact .mk))
    | ((with_reducible refine' Wl.out ?_; apply k_loads hS); (· exact .mk))
    | go_skip
    | ((with_reducible refine' Wl.out ?_; apply kg_load hS); iterate 2 (· exact .mk))
    | ((with_reducible refine' Wl.out ?_; apply kg_loads hS); iterate 2 (· exact .mk))
    | ((with_reducible refine' Wl.out ?_; refine' wg_case ?_ ?_) <;> (intro hgW; (try (have hg2 := hgW; simp [go_sem] at hg2)); (first | (exfalso; assumption) | ((with_reducible refine' Wl.out ?_; apply k_no hgW)) | ((with_reducible refine' Wl.out ?_; apply kg_load hS ⟨hgW⟩); (· exact .mk)) | ((with_reducible refine' Wl.out ?_; apply kg_loads hS ⟨hgW⟩); (· exact .mk))); clear hgW))
    | ((with_reducible refine' Wl.out ?_; apply k_stores hS); (· exact .mk); clear hS; intro ws hS)
                  | ((with_reducible refine' Wl.out ?_; apply wl_lit el_hit (cs := [.int .i64 y.dist, .int .i64 y.id]) hS); (· decide); (· decide); (· kernel_rfl); clear hS; intro w118 b118 hS)
                  | ((with_reducible refine' Wl.out ?_; apply wl_appH1 hS); (· exact rfl); (· (repeat constructor)); (· exact rfl); (· (repeat constructor)); (· exact hb100); clear hS; intro w119 q119 c119 hS))
                go_roundw
                case rel => exact ⟨j + 1, q119, c119, hlt, by rw [H3.out]; simp, by go_num, by rw [H3.out]; simpa using (hS.forget (x := .box b118 _) (by (repeat constructor))).forget (x := .box b24 _) (by (repeat constructor))⟩
                case measure => simp [intOf]; omega
            · obtain rfl : j = Y47.length := by omega
              rw [List.take_length] at hS ⊢
              obtain ⟨m2, hS2, hle2, hrd2⟩ := St.settleH hS rfl (fun x hx => HHits.out x (List.mem_filter.1 hx).1) (Nat.le_trans (List.length_filter_le _ _) (by omega))
              have R2 := Lib.hid hrd2
              have R68' := Lib.hid (Lay.mono _ hle2 R68.out)
              replace hS := hS2
              clear hrd2 hle2 hS2
              generalize (Y47.filter fun x => decide (x.id ≠ z)) = W at *
              go_wp2_with (first
    | ((with_reducible refine' Wl.out ?_; apply k_box (ty := 48) (y := (.tmp 0)) hS); (· exact .mk); clear hS; intro w4 b4 hS)
    | ((with_reducible refine' Wl.out ?_; apply k_alloc (ty := 48) (dst := some 15) hS); (· exact .mk); clear hS; intro w15 b15 hS)
    | ((with_reducible refine' Wl.out ?_; apply k_alloc (ty := 30) (dst := some 21) hS); (· exact .mk); clear hS; intro w21 b21 hS)
    | ((with_reducible refine' Wl.out ?_; apply k_alloc (ty := 30) (dst := some 24) hS); (· exact .mk); clear hS; intro w24 b24 hS)
    | ((with_reducible refine' Wl.out ?_; apply k_load hS); (· exact .mk))
    | ((with_reducible refine' Wl.out ?_; apply k_loads hS); (· exact .mk))
    | go_skip
    | ((with_reducible refine' Wl.out ?_; apply kg_load hS); iterate 2 (· exact .mk))
    | ((with_reducible refine' Wl.out ?_; apply kg_loads hS); iterate 2 (· exact .mk))
    | ((with_reducible refine' Wl.out ?_; refine' wg_case ?_ ?_) <;> (intro hgW; (try (have hg2 := hgW; simp [go_sem] at hg2)); (first | (exfalso; assumption) | ((with_reducible refine' Wl.out ?_; apply k_no hgW)) | ((with_reducible refine' Wl.out ?_; apply kg_load hS ⟨hgW⟩); (· exact .mk)) | ((with_reducible refine' Wl.out ?_; apply kg_loads hS ⟨hgW⟩); (· exact .mk))); clear hgW))
    | ((with_reducible refine' Wl.out ?_; apply k_stores hS); (· exact .mk); clear hS; intro ws hS)
                | (go_at_call 15; refine (same16_c _ _ hS.inw _ _ _ _ R68'.out R2.out).mono ?_; rintro e' w125 ⟨_, m125, rfl, hv125, hk⟩; replace hS := hS.call hk; clear hk; rw [decide_eq_true HW.out] at hv125; subst hv125))
              (first | (go_ret; exact ⟨rfl, hS.below⟩) | (go_ret; refine ⟨?_, hS.below⟩; simp; done))
        · have hLen : Y68.length + 1 = Y39.length := by rw [HY68.out, HY39.out, hT.out]; exact HL2.out hyes hp
          obtain rfl := HE47.out.trans hq2
          have z3 : IntKind.i64.wrap ((Y39.length : Int) - 1) = (Y68.length : Int) := (wr64 (by omega) (by omega)).trans (by omega)
          clear hB hmE hyes hp hq2 hLen
          go_wp2_with (first
    | ((with_reducible refine' Wl.out ?_; apply k_box (ty := 48) (y := (.tmp 0)) hS); (· exact .mk); clear hS; intro w4 b4 hS)
    | ((with_reducible refine' Wl.out ?_; apply k_alloc (ty := 48) (dst := some 15) hS); (· exact .mk); clear hS; intro w15 b15 hS)
    | ((with_reducible refine' Wl.out ?_; apply k_alloc (ty := 30) (dst := some 21) hS); (· exact .mk); clear hS; intro w21 b21 hS)
    | ((with_reducible refine' Wl.out ?_; apply k_alloc (ty := 30) (dst := some 24) hS); (· exact .mk); clear hS; intro w24 b24 hS)
    | ((with_reducible refine' Wl.out ?_; apply k_load hS); (· exact .mk))
    | ((with_reducible refine' Wl.out ?_; apply k_loads hS); (· exact .mk))
    | go_skip
    | ((with_reducible refine' Wl.out ?_; apply kg_load hS); iterate 2 (· exact .mk))
    | ((with_reducible refine' Wl.out ?_; apply kg_loads hS); iterate 2 (· exact .mk))
    | ((with_reducible refine' Wl.out ?_; refine' wg_case ?_ ?_) <;> (intro hgW; (try (have hg2 := hgW; simp [go_sem] at hg2)); (first | (exfalso; assumption) | ((with_reducible refine' Wl.out ?_; apply k_no hgW)) | ((with_reducible refine' Wl.out ?_; apply kg_load hS ⟨hgW⟩); (· exact .mk)) | ((with_reducible refine' Wl.out ?_; apply kg_loads hS ⟨hgW⟩); (· exact .mk))); clear hgW))
    | ((with_reducible refine' Wl.out ?_; apply k_stores hS); (· exact .mk); clear hS; intro ws hS))
          (first | (go_ret; exact ⟨rfl, hS.below⟩) | (go_ret; refine ⟨?_, hS.below⟩; simp; done))
end Go.Proofs.Ytlkdjmpkapeppaa
