/- slots.directory: its walk. -/
import Derived.Test.YtnbhhdncbajkgaaGreatDoorSl2G
import Derived.Test.YtnbhhdncbajkgaaGreatDoorG3
namespace Go.Proofs.YtnbhhdncbajkgaaGreatDoor
set_option linter.unusedVariables false
set_option linter.unusedSimpArgs false
open Go.RowKit Go.Shelf
set_option maxRecDepth 100000 in
set_option maxHeartbeats 4000000 in
theorem directory_c (m : Mem) (w : World) (hm : m.In w) (cs : List Value) (s : Sl) (h : slL.rd m cs s) :
    Calls Tryz.prog 52 #[.agg cs.toArray] w (DirR w m s) := by
  have hS := St.start hm
  obtain ⟨q1, c1, q2, c2, rfl, hd, h1, h2⟩ := slL_open h
  obtain ⟨_, _, e1, _, m1, _, r1⟩ := Lay.list_open h1
  obtain ⟨_, _, e2, _, m2, _, r2⟩ := Lay.list_open h2
  cases e1
  cases e2
  have HI := Lib.hid r1
  have HV := Lib.hid r2
  clear h h1 h2 r1 r2
  have hl1 : s.ids.length ≤ 9223372036854775807 := by simp only [maxLen] at m1; omega
  by_cases d1 : ¬ (1 ≤ s.dim ∧ s.dim ≤ 64)
  · have hno : Hid (¬ dirOK s) := fun o => d1 o.1
    have hb : Hid (decide (1 ≤ s.dim ∧ s.dim ≤ 64) = false) := decide_eq_false d1
    clear d1 HI HV
    go_enter Tryz.func52, Tryz.ntmps52
    go_wp2_with (first
    | ((with_reducible refine' Wl.out ?_; apply k_box (ty := 32) (y := (.tmp 0)) hS); (· exact .mk); clear hS; intro w1 b1 hS)
    | ((with_reducible refine' Wl.out ?_; apply k_load hS); (· exact .mk))
    | ((with_reducible refine' Wl.out ?_; apply k_loads hS); (· exact .mk))
    | go_skip
    | ((with_reducible refine' Wl.out ?_; apply kg_load hS); iterate 2 (· exact .mk))
    | ((with_reducible refine' Wl.out ?_; apply kg_loads hS); iterate 2 (· exact .mk))
    | ((with_reducible refine' Wl.out ?_; refine' wg_case ?_ ?_) <;> (intro hgW; (try (have hg2 := hgW; simp [go_sem] at hg2)); (first | (exfalso; assumption) | ((with_reducible refine' Wl.out ?_; apply k_no hgW)) | ((with_reducible refine' Wl.out ?_; apply kg_load hS ⟨hgW⟩); (· exact .mk)) | ((with_reducible refine' Wl.out ?_; apply kg_loads hS ⟨hgW⟩); (· exact .mk))); clear hgW))
    | (go_at_call 79; (fail_if_success (clear Mk11)); refine (letB (within_c _ _ hS.inw _ _)).mono ?_; rintro e' w11 ⟨_, m11, rfl, ⟨B11, HB11, rfl⟩, hk⟩; replace hS := hS.call hk; (try replace A0 := Lib.hid (Lay.mono _ hk.le A0.out)); clear hk; obtain rfl : B11 = false := HB11.out.trans hb.out; have Mk11 := True.intro))
    go_ret2
    exact .inr ⟨hno.out, rfl, hS.done.less (Mem.Le.refl _)⟩
  replace d1 := Classical.not_not.1 d1
  by_cases d2 : ¬ (1 ≤ (s.ids.length : Int) ∧ (s.ids.length : Int) ≤ 256)
  · have hno : Hid (¬ dirOK s) := fun o => d2 (by have := o.2.1; omega)
    have hb1 : Hid (decide (1 ≤ s.dim ∧ s.dim ≤ 64) = true) := decide_eq_true d1
    have hb2 : Hid (decide (1 ≤ (s.ids.length : Int) ∧ (s.ids.length : Int) ≤ 256) = false) := decide_eq_false d2
    clear d1 d2 HI HV
    go_enter Tryz.func52, Tryz.ntmps52
    go_wp2_with (first
    | ((with_reducible refine' Wl.out ?_; apply k_box (ty := 32) (y := (.tmp 0)) hS); (· exact .mk); clear hS; intro w1 b1 hS)
    | ((with_reducible refine' Wl.out ?_; apply k_load hS); (· exact .mk))
    | ((with_reducible refine' Wl.out ?_; apply k_loads hS); (· exact .mk))
    | go_skip
    | ((with_reducible refine' Wl.out ?_; apply kg_load hS); iterate 2 (· exact .mk))
    | ((with_reducible refine' Wl.out ?_; apply kg_loads hS); iterate 2 (· exact .mk))
    | ((with_reducible refine' Wl.out ?_; refine' wg_case ?_ ?_) <;> (intro hgW; (try (have hg2 := hgW; simp [go_sem] at hg2)); (first | (exfalso; assumption) | ((with_reducible refine' Wl.out ?_; apply k_no hgW)) | ((with_reducible refine' Wl.out ?_; apply kg_load hS ⟨hgW⟩); (· exact .mk)) | ((with_reducible refine' Wl.out ?_; apply kg_loads hS ⟨hgW⟩); (· exact .mk))); clear hgW))
    | (go_at_call 79; (fail_if_success (clear Mk11)); refine (letB (within_c _ _ hS.inw _ _)).mono ?_; rintro e' w11 ⟨_, m11, rfl, ⟨B11, HB11, rfl⟩, hk⟩; replace hS := hS.call hk; (try replace A0 := Lib.hid (Lay.mono _ hk.le A0.out)); clear hk; obtain rfl : B11 = true := HB11.out.trans hb1.out; have Mk11 := True.intro)
    | (go_at_call 79; (fail_if_success (clear Mk17)); refine (letB (within_c _ _ hS.inw _ _)).mono ?_; rintro e' w17 ⟨_, m17, rfl, ⟨B17, HB17, rfl⟩, hk⟩; replace hS := hS.call hk; (try replace A0 := Lib.hid (Lay.mono _ hk.le A0.out)); clear hk; obtain rfl : B17 = false := HB17.out.trans hb2.out; have Mk17 := True.intro))
    go_ret2
    exact .inr ⟨hno.out, rfl, hS.done.less (Mem.Le.refl _)⟩
  replace d2 := Classical.not_not.1 d2
  have hb1 : Hid (decide (1 ≤ s.dim ∧ s.dim ≤ 64) = true) := decide_eq_true d1
  have hb2 : Hid (decide (1 ≤ (s.ids.length : Int) ∧ (s.ids.length : Int) ≤ 256) = true) := decide_eq_true d2
  by_cases d3 : ¬ (s.vecs.length = s.ids.length)
  · have hno : Hid (¬ dirOK s) := fun o => d3 o.2.2.1
    have hne : ((s.vecs.length : Int) != s.ids.length) = true := by simp; omega
    clear d1 d2 d3 HI HV
    go_enter Tryz.func52, Tryz.ntmps52
    go_wp2_with (first
    | ((with_reducible refine' Wl.out ?_; apply k_box (ty := 32) (y := (.tmp 0)) hS); (· exact .mk); clear hS; intro w1 b1 hS)
    | ((with_reducible refine' Wl.out ?_; apply k_load hS); (· exact .mk))
    | ((with_reducible refine' Wl.out ?_; apply k_loads hS); (· exact .mk))
    | go_skip
    | ((with_reducible refine' Wl.out ?_; apply kg_load hS); iterate 2 (· exact .mk))
    | ((with_reducible refine' Wl.out ?_; apply kg_loads hS); iterate 2 (· exact .mk))
    | ((with_reducible refine' Wl.out ?_; refine' wg_case ?_ ?_) <;> (intro hgW; (try (have hg2 := hgW; simp [go_sem] at hg2)); (first | (exfalso; assumption) | ((with_reducible refine' Wl.out ?_; apply k_no hgW)) | ((with_reducible refine' Wl.out ?_; apply kg_load hS ⟨hgW⟩); (· exact .mk)) | ((with_reducible refine' Wl.out ?_; apply kg_loads hS ⟨hgW⟩); (· exact .mk))); clear hgW))
    | (go_at_call 79; (fail_if_success (clear Mk11)); refine (letB (within_c _ _ hS.inw _ _)).mono ?_; rintro e' w11 ⟨_, m11, rfl, ⟨B11, HB11, rfl⟩, hk⟩; replace hS := hS.call hk; (try replace A0 := Lib.hid (Lay.mono _ hk.le A0.out)); clear hk; obtain rfl : B11 = true := HB11.out.trans hb1.out; have Mk11 := True.intro)
    | (go_at_call 79; (fail_if_success (clear Mk17)); refine (letB (within_c _ _ hS.inw _ _)).mono ?_; rintro e' w17 ⟨_, m17, rfl, ⟨B17, HB17, rfl⟩, hk⟩; replace hS := hS.call hk; (try replace A0 := Lib.hid (Lay.mono _ hk.le A0.out)); clear hk; obtain rfl : B17 = true := HB17.out.trans hb2.out; have Mk17 := True.intro))
    go_ret2
    exact .inr ⟨hno.out, rfl, hS.done.less (Mem.Le.refl _)⟩
  replace d3 := Classical.not_not.1 d3
  have hyes : Hid ((∀ i, i < s.ids.length → goodAt s i) → dirOK s) := fun h => ⟨d1, by omega, d3, h⟩
  have hno : Hid (∀ i, i < s.ids.length → ¬ goodAt s i → ¬ dirOK s) := fun i hi h o => h (o.2.2.2 i hi)
  have HD3 := Lib.hid d3
  have hne : ((s.vecs.length : Int) != s.ids.length) = false := by simp [d3]
  have hl256 : s.ids.length ≤ 256 := by omega
  clear d1 d2 d3
  go_enter Tryz.func52, Tryz.ntmps52
  go_wp2_with (first
    | ((with_reducible refine' Wl.out ?_; apply k_box (ty := 32) (y := (.tmp 0)) hS); (· exact .mk); clear hS; intro w1 b1 hS)
    | ((with_reducible refine' Wl.out ?_; apply k_load hS); (· exact .mk))
    | ((with_reducible refine' Wl.out ?_; apply k_loads hS); (· exact .mk))
    | go_skip
    | ((with_reducible refine' Wl.out ?_; apply kg_load hS); iterate 2 (· exact .mk))
    | ((with_reducible refine' Wl.out ?_; apply kg_loads hS); iterate 2 (· exact .mk))
    | ((with_reducible refine' Wl.out ?_; refine' wg_case ?_ ?_) <;> (intro hgW; (try (have hg2 := hgW; simp [go_sem] at hg2)); (first | (exfalso; assumption) | ((with_reducible refine' Wl.out ?_; apply k_no hgW)) | ((with_reducible refine' Wl.out ?_; apply kg_load hS ⟨hgW⟩); (· exact .mk)) | ((with_reducible refine' Wl.out ?_; apply kg_loads hS ⟨hgW⟩); (· exact .mk))); clear hgW))
    | (go_at_call 79; (fail_if_success (clear Mk11)); refine (letB (within_c _ _ hS.inw _ _)).mono ?_; rintro e' w11 ⟨_, m11, rfl, ⟨B11, HB11, rfl⟩, hk⟩; replace hS := hS.call hk; (try replace A0 := Lib.hid (Lay.mono _ hk.le A0.out)); clear hk; obtain rfl : B11 = true := HB11.out.trans hb1.out; have Mk11 := True.intro)
    | (go_at_call 79; (fail_if_success (clear Mk17)); refine (letB (within_c _ _ hS.inw _ _)).mono ?_; rintro e' w17 ⟨_, m17, rfl, ⟨B17, HB17, rfl⟩, hk⟩; replace hS := hS.call hk; (try replace A0 := Lib.hid (Lay.mono _ hk.le A0.out)); clear hk; obtain rfl : B17 = true := HB17.out.trans hb2.out; have Mk17 := True.intro)
    | ((with_reducible refine' Wl.out ?_; apply wl_makeMapN hS mapT); (· exact rfl); clear hS; intro w32 b32 hS))
  go_loopw [36] (fun vi wr => ∃ (k n : Nat), k ≤ s.ids.length ∧ vi = .int .i64 k ∧ n ≤ k ∧ Hid (∀ i, i < k → goodAt s i) ∧ St [] w m wr [.obj b32 (MapI Tryz.prog 2 3 .i64 .i64 n (dirF s k)), .box b1 [.int .i64 s.dim, .slice q1 s.ids.length c1, .slice q2 s.vecs.length c2]] m) (fun vi _ => s.ids.length - (intOf vi).toNat)
  case atStart => exact ⟨0, 0, Nat.zero_le _, rfl, Nat.le_refl _, fun i hi => absurd hi (Nat.not_lt_zero _), hS.less (Mem.Le.refl _)⟩
  case round =>
    clear hS
    obtain ⟨k, n, hk, rfl, hn, hall, hS⟩ := hrel
    by_cases hlt : k < s.ids.length
    · obtain ⟨bi, oi, rfl, hcx, hkx⟩ := HI.out.intAt k hlt
      obtain ⟨bv, ov, q, c, rfl, hcv, hrd⟩ := HV.out.listAt k (by rw [HD3.out]; exact hlt)
      have hcx' := hS.le _ _ hcx
      have hcv' := hS.le _ _ hcv
      have A0 := Lib.hid (Lay.mono _ hS.le hrd)
      have HK := Lib.hid hkx
      have hkz : (k : Int) < s.ids.length := by omega
      have hkz2 : (k : Int) < s.vecs.length := by have := HD3.out; omega
      have HSk : Hid (s.ids.getD k 0 = -1 → dirF s (k + 1) = dirF s k) := dirF_skip
      have HPut : Hid (s.ids.getD k 0 ≠ -1 → (fun z => if z = s.ids.getD k 0 then some (k : Int) else dirF s k z) = dirF s (k + 1)) := dirF_put
      have hN := hno.out k hlt
      have hA : goodAt s k → Hid (∀ i, i < k + 1 → goodAt s i) := fun h i hi => by
        by_cases e : i = k
        · subst e; exact h
        · exact hall.out i (by omega)
      have hneg := dirF_neg s k
      have hsl := slot_is s k
      have hlook : Hid ((dirF s k (s.ids.getD k 0)).getD 0 = (dirF s k (s.ids.getD k 0)).getD 0) := rfl
      have hsz : n < maxLen := by simp only [maxLen]; omega
      have hkk : InK .i64 (k : Int) := by simp [InK, IntKind.min, IntKind.max, IntKind.signed, IntKind.bits]; omega
      clear hcx hcv hrd hkx hno hall
      generalize s.vecs.getD k [] = v at *
      generalize s.ids.getD k 0 = x at *
      rcases hsl with ⟨rfl, rfl, hg⟩ | ⟨h0, hmet, hb⟩ | ⟨h0, hmet, his, hb⟩ | ⟨h0, hmet, his, hfit, hb⟩ | ⟨h0, hmet, his, hfit, hg⟩
      · have HA := hA hg
        have hF := Lib.hid (HSk.out rfl)
        clear hA hN hneg HSk HPut hlook hg hkk hsz
        go_wp2_with (first
    | ((with_reducible refine' Wl.out ?_; apply k_box (ty := 32) (y := (.tmp 0)) hS); (· exact .mk); clear hS; intro w1 b1 hS)
    | ((with_reducible refine' Wl.out ?_; apply k_load hS); (· exact .mk))
    | ((with_reducible refine' Wl.out ?_; apply k_loads hS); (· exact .mk))
    | go_skip
    | ((with_reducible refine' Wl.out ?_; apply kg_load hS); iterate 2 (· exact .mk))
    | ((with_reducible refine' Wl.out ?_; apply kg_loads hS); iterate 2 (· exact .mk))
    | ((with_reducible refine' Wl.out ?_; refine' wg_case ?_ ?_) <;> (intro hgW; (try (have hg2 := hgW; simp [go_sem] at hg2)); (first | (exfalso; assumption) | ((with_reducible refine' Wl.out ?_; apply k_no hgW)) | ((with_reducible refine' Wl.out ?_; apply kg_load hS ⟨hgW⟩); (· exact .mk)) | ((with_reducible refine' Wl.out ?_; apply kg_loads hS ⟨hgW⟩); (· exact .mk))); clear hgW)))
        go_roundw
        case rel => exact ⟨k + 1, n, hlt, by go_num, by omega, HA, by rw [hF.out]; exact hS⟩
        case measure => simp [intOf]; omega
      · obtain ⟨V, hV⟩ : ∃ V, (dirF s k x).getD 0 = V := ⟨_, rfl⟩
        have hx : ¬ x = -1 := by rintro rfl; rw [hneg] at hmet; cases hmet
        have HLk : Hid ((dirF s k x).getD 0 = V ∧ (dirF s k x).isSome = true) := ⟨hV, hmet⟩
        have HB := Lib.hid (hN hb)
        clear hA hN hneg HSk HPut hlook hb hmet hV h0 hkk hsz
        go_wp2_with (first
    | ((with_reducible refine' Wl.out ?_; apply k_box (ty := 32) (y := (.tmp 0)) hS); (· exact .mk); clear hS; intro w1 b1 hS)
    | ((with_reducible refine' Wl.out ?_; apply k_load hS); (· exact .mk))
    | ((with_reducible refine' Wl.out ?_; apply k_loads hS); (· exact .mk))
    | go_skip
    | ((with_reducible refine' Wl.out ?_; apply kg_load hS); iterate 2 (· exact .mk))
    | ((with_reducible refine' Wl.out ?_; apply kg_loads hS); iterate 2 (· exact .mk))
    | ((with_reducible refine' Wl.out ?_; refine' wg_case ?_ ?_) <;> (intro hgW; (try (have hg2 := hgW; simp [go_sem] at hg2)); (first | (exfalso; assumption) | ((with_reducible refine' Wl.out ?_; apply k_no hgW)) | ((with_reducible refine' Wl.out ?_; apply kg_load hS ⟨hgW⟩); (· exact .mk)) | ((with_reducible refine' Wl.out ?_; apply kg_loads hS ⟨hgW⟩); (· exact .mk))); clear hgW))
    | ((with_reducible refine' Wl.out ?_; apply wl_lookup2 hS mapT); (· exact rfl); (· (repeat constructor)); (· exact rfl); (· exact HK.out); (· exact HLk.out)))
        replace hS := hS.drew
        have hle := hS.leSelf
        refine startL (S := Sx _ [(b1, _)]) (by kernel_rfl) (hS.sx0.cons hS (by (repeat constructor))) (fun _ _ _ _ => trivial) (fun hHeld => ?_)
        focus (refine takeN 0 (v := ?_) rfl (by kernel_rfl) ?_ ?_; rotate_left; focus (intro w hSw; clear hSw; go_simp; try with_reducible rfl))
        try simp only [Act.put, nz1, nz2, nz3]
        focus (refine takeN 1 (v := ?_) rfl (by kernel_rfl) ?_ ?_; rotate_left; focus (intro w hSw; clear hSw; go_simp; try with_reducible rfl))
        try simp only [Act.put, nz1, nz2, nz3]
        first | (focus (refine takeG 2 (v := ?_) rfl (by kernel_rfl) ?_ ?_ ?_; rotate_left; (focus (first | rfl | (go_simp <;> fail))); (focus (intro w hSw; clear hSw; go_simp; try with_reducible rfl)))) | (refine skipG 2 rfl (by kernel_rfl) ?_ ?_; (focus (first | rfl | (go_simp <;> fail))))
        try simp only [Act.put, nz1, nz2, nz3]
        refine wpAnyH_ready (rs := [3]) (by kernel_rfl) (by simp) ?_
        refine consL 3 rfl (fun K hK => ?_) AllReadyH.nil
        first | (refine ifYes ?_ ?_; (focus rfl); go_simp; refine (letB (is_c _ _ hS.inw _)).mono ?_; rintro e' w61 ⟨_, m61, rfl, ⟨B61, HB61, rfl⟩, hk⟩; replace hS := hS.call hk; (try replace A0 := Lib.hid (Lay.mono _ hk.le A0.out)); replace hle := hle.trans hk.le; clear hk; go_wp2_with fail) | (refine ifNo ?_ ?_; focus (first | exact Bool.false_ne_true | (go_simp <;> fail)))
        refine hK.out _ _ (by first | exact (hS.sx0.cons hS (by (repeat constructor))) | exact Sx.le (by assumption) (hS.sx0.cons hS (by (repeat constructor)))) (fun hHeld => ?_)
        clear hK K
        try simp only [Act.put, nz1, nz2, nz3]
        first | (focus (refine takeG 4 (v := ?_) rfl (by kernel_rfl) ?_ ?_ ?_; rotate_left; (focus (first | rfl | (go_simp <;> fail))); (focus (intro w hSw; clear hSw; go_simp; try with_reducible rfl)))) | (refine skipG 4 rfl (by kernel_rfl) ?_ ?_; (focus (first | rfl | (go_simp <;> fail))))
        try simp only [Act.put, nz1, nz2, nz3]
        focus (refine takeN 5 (v := ?_) rfl (by kernel_rfl) ?_ ?_; rotate_left; focus (intro w hSw; clear hSw; go_simp; try with_reducible rfl))
        try simp only [Act.put, nz1, nz2, nz3]
        focus (refine takeN 6 (v := ?_) rfl (by kernel_rfl) ?_ ?_; rotate_left; focus (intro w hSw; clear hSw; go_simp; try with_reducible rfl))
        try simp only [Act.put, nz1, nz2, nz3]
        first | (focus (refine' takeG 7 rfl (by kernel_rfl) ?_ ?_ ?_; rotate_left; (focus (first | rfl | (go_simp <;> fail))); (focus (intro w hSw; refine' yield_loads rfl rowT32 rfl ?_ w hSw; (first | (apply FindsX.box; (· (repeat constructor)); (· (repeat constructor)); done) | (refine FindsX.mem (by assumption) ?_; first | rfl | assumption | (simp; done))))))) | (refine skipG 7 rfl (by kernel_rfl) ?_ ?_; (focus (first | rfl | (go_simp <;> fail))))
        try simp only [Act.put, nz1, nz2, nz3]
        first | (focus (refine takeG 8 (v := ?_) rfl (by kernel_rfl) ?_ ?_ ?_; rotate_left; (focus (first | rfl | (go_simp <;> fail))); (focus (intro w hSw; clear hSw; go_simp; try with_reducible rfl)))) | (refine skipG 8 rfl (by kernel_rfl) ?_ ?_; (focus (first | rfl | (go_simp <;> fail))))
        try simp only [Act.put, nz1, nz2, nz3]
        first | (focus (refine' takeG 9 rfl (by kernel_rfl) ?_ ?_ ?_; rotate_left; (focus (first | rfl | (go_simp <;> fail))); (focus (intro w hSw; refine' yield_load rfl Tryz.underlying30 rfl rfl ?_ w hSw; (first | (apply FindX.box; (· (repeat constructor)); rfl) | exact FindX.mem (by assumption)))))) | (refine skipG 9 rfl (by kernel_rfl) ?_ ?_; (focus (first | rfl | (go_simp <;> fail))))
        try simp only [Act.put, nz1, nz2, nz3]
        first | (focus (refine takeG 10 (v := ?_) rfl (by kernel_rfl) ?_ ?_ ?_; rotate_left; (focus (first | rfl | (go_simp <;> fail))); (focus (intro w hSw; clear hSw; go_simp; try with_reducible rfl)))) | (refine skipG 10 rfl (by kernel_rfl) ?_ ?_; (focus (first | rfl | (go_simp <;> fail))))
        try simp only [Act.put, nz1, nz2, nz3]
        first | (focus (refine takeG 11 (v := ?_) rfl (by kernel_rfl) ?_ ?_ ?_; rotate_left; (focus (first | rfl | (go_simp <;> fail))); (focus (intro w hSw; clear hSw; go_simp; try with_reducible rfl)))) | (refine skipG 11 rfl (by kernel_rfl) ?_ ?_; (focus (first | rfl | (go_simp <;> fail))))
        try simp only [Act.put, nz1, nz2, nz3]
        first | (focus (refine' takeG 12 rfl (by kernel_rfl) ?_ ?_ ?_; rotate_left; (focus (first | rfl | (go_simp <;> fail))); (focus (intro w hSw; refine' yield_load rfl Tryz.underlying26 rfl rfl ?_ w hSw; (first | (apply FindX.box; (· (repeat constructor)); rfl) | exact FindX.mem (by assumption)))))) | (refine skipG 12 rfl (by kernel_rfl) ?_ ?_; (focus (first | rfl | (go_simp <;> fail))))
        try simp only [Act.put, nz1, nz2, nz3]
        refine wpAnyH_ready (rs := [13]) (by kernel_rfl) (by simp) ?_
        refine consL 13 rfl (fun K hK => ?_) AllReadyH.nil
        first | (refine ifYes ?_ ?_; (focus rfl); go_simp; refine (letB (fits_c _ _ hS.inw _ _ _ _ _ (by first | exact A0.out | exact dkL_dry A0.out | exact Lay.nil_rd _ _))).mono ?_; rintro e' w71 ⟨_, m71, rfl, ⟨B71, HB71, rfl⟩, hk⟩; replace hS := hS.call hk; (try replace A0 := Lib.hid (Lay.mono _ hk.le A0.out)); replace hle := hle.trans hk.le; clear hk; go_wp2_with fail) | (refine ifNo ?_ ?_; focus (first | exact Bool.false_ne_true | (go_simp <;> fail)))
        refine hK.out _ _ (by first | exact (hS.sx0.cons hS (by (repeat constructor))) | exact Sx.le (by assumption) (hS.sx0.cons hS (by (repeat constructor)))) (fun hHeld => ?_)
        clear hK K
        try simp only [Act.put, nz1, nz2, nz3]
        first | (focus (refine takeG 14 (v := ?_) rfl (by kernel_rfl) ?_ ?_ ?_; rotate_left; (focus (first | rfl | (go_simp <;> fail))); (focus (intro w hSw; clear hSw; go_simp; try with_reducible rfl)))) | (refine skipG 14 rfl (by kernel_rfl) ?_ ?_; (focus (first | rfl | (go_simp <;> fail))))
        try simp only [Act.put, nz1, nz2, nz3]
        focus (refine takeN 15 (v := ?_) rfl (by kernel_rfl) ?_ ?_; rotate_left; focus (intro w hSw; clear hSw; go_simp; try with_reducible rfl))
        try simp only [Act.put, nz1, nz2, nz3]
        refine wpAnyH_done (by kernel_rfl) ?_ _
        refine NoPanic.normal ?_
        all_goals
          go_wp2_with fail
          go_ret2
          exact .inr ⟨HB.out, rfl, hS.done.less (Mem.Le.refl _)⟩
      · obtain ⟨V, hV⟩ : ∃ V, (dirF s k x).getD 0 = V := ⟨_, rfl⟩
        have HLk : Hid ((dirF s k x).getD 0 = V ∧ (dirF s k x).isSome = false) := ⟨hV, hmet⟩
        have HB := Lib.hid (hN hb)
        have Hq : Hid (decide (0 ≤ x ∧ x ≤ 2147483647) = false) := decide_eq_false his
        by_cases hx : x = -1
        · have hvl : ((v.length : Int) == 0) = false := by
            have : v.length ≠ 0 := fun e => h0 ⟨hx, List.eq_nil_of_length_eq_zero e⟩
            simp; intro e; exact h0 ⟨hx, e⟩
          subst hx
          clear hA hN hneg HSk HPut hlook hb hmet hV h0 his hkk hsz
          go_wp2_with (first
    | ((with_reducible refine' Wl.out ?_; apply k_box (ty := 32) (y := (.tmp 0)) hS); (· exact .mk); clear hS; intro w1 b1 hS)
    | ((with_reducible refine' Wl.out ?_; apply k_load hS); (· exact .mk))
    | ((with_reducible refine' Wl.out ?_; apply k_loads hS); (· exact .mk))
    | go_skip
    | ((with_reducible refine' Wl.out ?_; apply kg_load hS); iterate 2 (· exact .mk))
    | ((with_reducible refine' Wl.out ?_; apply kg_loads hS); iterate 2 (· exact .mk))
    | ((with_reducible refine' Wl.out ?_; refine' wg_case ?_ ?_) <;> (intro hgW; (try (have hg2 := hgW; simp [go_sem] at hg2)); (first | (exfalso; assumption) | ((with_reducible refine' Wl.out ?_; apply k_no hgW)) | ((with_reducible refine' Wl.out ?_; apply kg_load hS ⟨hgW⟩); (· exact .mk)) | ((with_reducible refine' Wl.out ?_; apply kg_loads hS ⟨hgW⟩); (· exact .mk))); clear hgW))
    | ((with_reducible refine' Wl.out ?_; apply wl_lookup2 hS mapT); (· exact rfl); (· (repeat constructor)); (· exact rfl); (· exact HK.out); (· exact HLk.out)))
          replace hS := hS.drew
          have hle := hS.leSelf
          refine startL (S := Sx _ [(b1, _)]) (by kernel_rfl) (hS.sx0.cons hS (by (repeat constructor))) (fun _ _ _ _ => trivial) (fun hHeld => ?_)
          focus (refine takeN 0 (v := ?_) rfl (by kernel_rfl) ?_ ?_; rotate_left; focus (intro w hSw; clear hSw; go_simp; try with_reducible rfl))
          try simp only [Act.put, nz1, nz2, nz3]
          focus (refine takeN 1 (v := ?_) rfl (by kernel_rfl) ?_ ?_; rotate_left; focus (intro w hSw; clear hSw; go_simp; try with_reducible rfl))
          try simp only [Act.put, nz1, nz2, nz3]
          first | (focus (refine takeG 2 (v := ?_) rfl (by kernel_rfl) ?_ ?_ ?_; rotate_left; (focus (first | rfl | (go_simp <;> fail))); (focus (intro w hSw; clear hSw; go_simp; try with_reducible rfl)))) | (refine skipG 2 rfl (by kernel_rfl) ?_ ?_; (focus (first | rfl | (go_simp <;> fail))))
          try simp only [Act.put, nz1, nz2, nz3]
          refine wpAnyH_ready (rs := [3]) (by kernel_rfl) (by simp) ?_
          refine consL 3 rfl (fun K hK => ?_) AllReadyH.nil
          first | (refine ifYes ?_ ?_; (focus rfl); go_simp; refine (letB (is_c _ _ hS.inw _)).mono ?_; rintro e' w61 ⟨_, m61, rfl, ⟨B61, HB61, rfl⟩, hk⟩; replace hS := hS.call hk; (try replace A0 := Lib.hid (Lay.mono _ hk.le A0.out)); replace hle := hle.trans hk.le; clear hk; obtain rfl : B61 = false := HB61.out.trans Hq.out; go_wp2_with fail) | (refine ifNo ?_ ?_; focus (first | exact Bool.false_ne_true | (go_simp <;> fail)))
          refine hK.out _ _ (by first | exact (hS.sx0.cons hS (by (repeat constructor))) | exact Sx.le (by assumption) (hS.sx0.cons hS (by (repeat constructor)))) (fun hHeld => ?_)
          clear hK K
          try simp only [Act.put, nz1, nz2, nz3]
          first | (focus (refine takeG 4 (v := ?_) rfl (by kernel_rfl) ?_ ?_ ?_; rotate_left; (focus (first | rfl | (go_simp <;> fail))); (focus (intro w hSw; clear hSw; go_simp; try with_reducible rfl)))) | (refine skipG 4 rfl (by kernel_rfl) ?_ ?_; (focus (first | rfl | (go_simp <;> fail))))
          try simp only [Act.put, nz1, nz2, nz3]
          focus (refine takeN 5 (v := ?_) rfl (by kernel_rfl) ?_ ?_; rotate_left; focus (intro w hSw; clear hSw; go_simp; try with_reducible rfl))
          try simp only [Act.put, nz1, nz2, nz3]
          focus (refine takeN 6 (v := ?_) rfl (by kernel_rfl) ?_ ?_; rotate_left; focus (intro w hSw; clear hSw; go_simp; try with_reducible rfl))
          try simp only [Act.put, nz1, nz2, nz3]
          first | (focus (refine' takeG 7 rfl (by kernel_rfl) ?_ ?_ ?_; rotate_left; (focus (first | rfl | (go_simp <;> fail))); (focus (intro w hSw; refine' yield_loads rfl rowT32 rfl ?_ w hSw; (first | (apply FindsX.box; (· (repeat constructor)); (· (repeat constructor)); done) | (refine FindsX.mem (by assumption) ?_; first | rfl | assumption | (simp; done))))))) | (refine skipG 7 rfl (by kernel_rfl) ?_ ?_; (focus (first | rfl | (go_simp <;> fail))))
          try simp only [Act.put, nz1, nz2, nz3]
          first | (focus (refine takeG 8 (v := ?_) rfl (by kernel_rfl) ?_ ?_ ?_; rotate_left; (focus (first | rfl | (go_simp <;> fail))); (focus (intro w hSw; clear hSw; go_simp; try with_reducible rfl)))) | (refine skipG 8 rfl (by kernel_rfl) ?_ ?_; (focus (first | rfl | (go_simp <;> fail))))
          try simp only [Act.put, nz1, nz2, nz3]
          first | (focus (refine' takeG 9 rfl (by kernel_rfl) ?_ ?_ ?_; rotate_left; (focus (first | rfl | (go_simp <;> fail))); (focus (intro w hSw; refine' yield_load rfl Tryz.underlying30 rfl rfl ?_ w hSw; (first | (apply FindX.box; (· (repeat constructor)); rfl) | exact FindX.mem (by assumption)))))) | (refine skipG 9 rfl (by kernel_rfl) ?_ ?_; (focus (first | rfl | (go_simp <;> fail))))
          try simp only [Act.put, nz1, nz2, nz3]
          first | (focus (refine takeG 10 (v := ?_) rfl (by kernel_rfl) ?_ ?_ ?_; rotate_left; (focus (first | rfl | (go_simp <;> fail))); (focus (intro w hSw; clear hSw; go_simp; try with_reducible rfl)))) | (refine skipG 10 rfl (by kernel_rfl) ?_ ?_; (focus (first | rfl | (go_simp <;> fail))))
          try simp only [Act.put, nz1, nz2, nz3]
          first | (focus (refine takeG 11 (v := ?_) rfl (by kernel_rfl) ?_ ?_ ?_; rotate_left; (focus (first | rfl | (go_simp <;> fail))); (focus (intro w hSw; clear hSw; go_simp; try with_reducible rfl)))) | (refine skipG 11 rfl (by kernel_rfl) ?_ ?_; (focus (first | rfl | (go_simp <;> fail))))
          try simp only [Act.put, nz1, nz2, nz3]
          first | (focus (refine' takeG 12 rfl (by kernel_rfl) ?_ ?_ ?_; rotate_left; (focus (first | rfl | (go_simp <;> fail))); (focus (intro w hSw; refine' yield_load rfl Tryz.underlying26 rfl rfl ?_ w hSw; (first | (apply FindX.box; (· (repeat constructor)); rfl) | exact FindX.mem (by assumption)))))) | (refine skipG 12 rfl (by kernel_rfl) ?_ ?_; (focus (first | rfl | (go_simp <;> fail))))
          try simp only [Act.put, nz1, nz2, nz3]
          refine wpAnyH_ready (rs := [13]) (by kernel_rfl) (by simp) ?_
          refine consL 13 rfl (fun K hK => ?_) AllReadyH.nil
          first | (refine ifYes ?_ ?_; (focus rfl); go_simp; refine (letB (fits_c _ _ hS.inw _ _ _ _ _ (by first | exact A0.out | exact dkL_dry A0.out | exact Lay.nil_rd _ _))).mono ?_; rintro e' w71 ⟨_, m71, rfl, ⟨B71, HB71, rfl⟩, hk⟩; replace hS := hS.call hk; (try replace A0 := Lib.hid (Lay.mono _ hk.le A0.out)); replace hle := hle.trans hk.le; clear hk; go_wp2_with fail) | (refine ifNo ?_ ?_; focus (first | exact Bool.false_ne_true | (go_simp <;> fail)))
          refine hK.out _ _ (by first | exact (hS.sx0.cons hS (by (repeat constructor))) | exact Sx.le (by assumption) (hS.sx0.cons hS (by (repeat constructor)))) (fun hHeld => ?_)
          clear hK K
          try simp only [Act.put, nz1, nz2, nz3]
          first | (focus (refine takeG 14 (v := ?_) rfl (by kernel_rfl) ?_ ?_ ?_; rotate_left; (focus (first | rfl | (go_simp <;> fail))); (focus (intro w hSw; clear hSw; go_simp; try with_reducible rfl)))) | (refine skipG 14 rfl (by kernel_rfl) ?_ ?_; (focus (first | rfl | (go_simp <;> fail))))
          try simp only [Act.put, nz1, nz2, nz3]
          focus (refine takeN 15 (v := ?_) rfl (by kernel_rfl) ?_ ?_; rotate_left; focus (intro w hSw; clear hSw; go_simp; try with_reducible rfl))
          try simp only [Act.put, nz1, nz2, nz3]
          refine wpAnyH_done (by kernel_rfl) ?_ _
          refine NoPanic.normal ?_
          all_goals
            go_wp2_with fail
            go_ret2
            exact .inr ⟨HB.out, rfl, hS.done.less (Mem.Le.refl _)⟩
        · clear hA hN hneg HSk HPut hlook hb hmet hV h0 his hkk hsz
          go_wp2_with (first
    | ((with_reducible refine' Wl.out ?_; apply k_box (ty := 32) (y := (.tmp 0)) hS); (· exact .mk); clear hS; intro w1 b1 hS)
    | ((with_reducible refine' Wl.out ?_; apply k_load hS); (· exact .mk))
    | ((with_reducible refine' Wl.out ?_; apply k_loads hS); (· exact .mk))
    | go_skip
    | ((with_reducible refine' Wl.out ?_; apply kg_load hS); iterate 2 (· exact .mk))
    | ((with_reducible refine' Wl.out ?_; apply kg_loads hS); iterate 2 (· exact .mk))
    | ((with_reducible refine' Wl.out ?_; refine' wg_case ?_ ?_) <;> (intro hgW; (try (have hg2 := hgW; simp [go_sem] at hg2)); (first | (exfalso; assumption) | ((with_reducible refine' Wl.out ?_; apply k_no hgW)) | ((with_reducible refine' Wl.out ?_; apply kg_load hS ⟨hgW⟩); (· exact .mk)) | ((with_reducible refine' Wl.out ?_; apply kg_loads hS ⟨hgW⟩); (· exact .mk))); clear hgW))
    | ((with_reducible refine' Wl.out ?_; apply wl_lookup2 hS mapT); (· exact rfl); (· (repeat constructor)); (· exact rfl); (· exact HK.out); (· exact HLk.out)))
          replace hS := hS.drew
          have hle := hS.leSelf
          refine startL (S := Sx _ [(b1, _)]) (by kernel_rfl) (hS.sx0.cons hS (by (repeat constructor))) (fun _ _ _ _ => trivial) (fun hHeld => ?_)
          focus (refine takeN 0 (v := ?_) rfl (by kernel_rfl) ?_ ?_; rotate_left; focus (intro w hSw; clear hSw; go_simp; try with_reducible rfl))
          try simp only [Act.put, nz1, nz2, nz3]
          focus (refine takeN 1 (v := ?_) rfl (by kernel_rfl) ?_ ?_; rotate_left; focus (intro w hSw; clear hSw; go_simp; try with_reducible rfl))
          try simp only [Act.put, nz1, nz2, nz3]
          first | (focus (refine takeG 2 (v := ?_) rfl (by kernel_rfl) ?_ ?_ ?_; rotate_left; (focus (first | rfl | (go_simp <;> fail))); (focus (intro w hSw; clear hSw; go_simp; try with_reducible rfl)))) | (refine skipG 2 rfl (by kernel_rfl) ?_ ?_; (focus (first | rfl | (go_simp <;> fail))))
          try simp only [Act.put, nz1, nz2, nz3]
          refine wpAnyH_ready (rs := [3]) (by kernel_rfl) (by simp) ?_
          refine consL 3 rfl (fun K hK => ?_) AllReadyH.nil
          first | (refine ifYes ?_ ?_; (focus rfl); go_simp; refine (letB (is_c _ _ hS.inw _)).mono ?_; rintro e' w61 ⟨_, m61, rfl, ⟨B61, HB61, rfl⟩, hk⟩; replace hS := hS.call hk; (try replace A0 := Lib.hid (Lay.mono _ hk.le A0.out)); replace hle := hle.trans hk.le; clear hk; obtain rfl : B61 = false := HB61.out.trans Hq.out; go_wp2_with fail) | (refine ifNo ?_ ?_; focus (first | exact Bool.false_ne_true | (go_simp <;> fail)))
          refine hK.out _ _ (by first | exact (hS.sx0.cons hS (by (repeat constructor))) | exact Sx.le (by assumption) (hS.sx0.cons hS (by (repeat constructor)))) (fun hHeld => ?_)
          clear hK K
          try simp only [Act.put, nz1, nz2, nz3]
          first | (focus (refine takeG 4 (v := ?_) rfl (by kernel_rfl) ?_ ?_ ?_; rotate_left; (focus (first | rfl | (go_simp <;> fail))); (focus (intro w hSw; clear hSw; go_simp; try with_reducible rfl)))) | (refine skipG 4 rfl (by kernel_rfl) ?_ ?_; (focus (first | rfl | (go_simp <;> fail))))
          try simp only [Act.put, nz1, nz2, nz3]
          focus (refine takeN 5 (v := ?_) rfl (by kernel_rfl) ?_ ?_; rotate_left; focus (intro w hSw; clear hSw; go_simp; try with_reducible rfl))
          try simp only [Act.put, nz1, nz2, nz3]
          focus (refine takeN 6 (v := ?_) rfl (by kernel_rfl) ?_ ?_; rotate_left; focus (intro w hSw; clear hSw; go_simp; try with_reducible rfl))
          try simp only [Act.put, nz1, nz2, nz3]
          first | (focus (refine' takeG 7 rfl (by kernel_rfl) ?_ ?_ ?_; rotate_left; (focus (first | rfl | (go_simp <;> fail))); (focus (intro w hSw; refine' yield_loads rfl rowT32 rfl ?_ w hSw; (first | (apply FindsX.box; (· (repeat constructor)); (· (repeat constructor)); done) | (refine FindsX.mem (by assumption) ?_; first | rfl | assumption | (simp; done))))))) | (refine skipG 7 rfl (by kernel_rfl) ?_ ?_; (focus (first | rfl | (go_simp <;> fail))))
          try simp only [Act.put, nz1, nz2, nz3]
          first | (focus (refine takeG 8 (v := ?_) rfl (by kernel_rfl) ?_ ?_ ?_; rotate_left; (focus (first | rfl | (go_simp <;> fail))); (focus (intro w hSw; clear hSw; go_simp; try with_reducible rfl)))) | (refine skipG 8 rfl (by kernel_rfl) ?_ ?_; (focus (first | rfl | (go_simp <;> fail))))
          try simp only [Act.put, nz1, nz2, nz3]
          first | (focus (refine' takeG 9 rfl (by kernel_rfl) ?_ ?_ ?_; rotate_left; (focus (first | rfl | (go_simp <;> fail))); (focus (intro w hSw; refine' yield_load rfl Tryz.underlying30 rfl rfl ?_ w hSw; (first | (apply FindX.box; (· (repeat constructor)); rfl) | exact FindX.mem (by assumption)))))) | (refine skipG 9 rfl (by kernel_rfl) ?_ ?_; (focus (first | rfl | (go_simp <;> fail))))
          try simp only [Act.put, nz1, nz2, nz3]
          first | (focus (refine takeG 10 (v := ?_) rfl (by kernel_rfl) ?_ ?_ ?_; rotate_left; (focus (first | rfl | (go_simp <;> fail))); (focus (intro w hSw; clear hSw; go_simp; try with_reducible rfl)))) | (refine skipG 10 rfl (by kernel_rfl) ?_ ?_; (focus (first | rfl | (go_simp <;> fail))))
          try simp only [Act.put, nz1, nz2, nz3]
          first | (focus (refine takeG 11 (v := ?_) rfl (by kernel_rfl) ?_ ?_ ?_; rotate_left; (focus (first | rfl | (go_simp <;> fail))); (focus (intro w hSw; clear hSw; go_simp; try with_reducible rfl)))) | (refine skipG 11 rfl (by kernel_rfl) ?_ ?_; (focus (first | rfl | (go_simp <;> fail))))
          try simp only [Act.put, nz1, nz2, nz3]
          first | (focus (refine' takeG 12 rfl (by kernel_rfl) ?_ ?_ ?_; rotate_left; (focus (first | rfl | (go_simp <;> fail))); (focus (intro w hSw; refine' yield_load rfl Tryz.underlying26 rfl rfl ?_ w hSw; (first | (apply FindX.box; (· (repeat constructor)); rfl) | exact FindX.mem (by assumption)))))) | (refine skipG 12 rfl (by kernel_rfl) ?_ ?_; (focus (first | rfl | (go_simp <;> fail))))
          try simp only [Act.put, nz1, nz2, nz3]
          refine wpAnyH_ready (rs := [13]) (by kernel_rfl) (by simp) ?_
          refine consL 13 rfl (fun K hK => ?_) AllReadyH.nil
          first | (refine ifYes ?_ ?_; (focus rfl); go_simp; refine (letB (fits_c _ _ hS.inw _ _ _ _ _ (by first | exact A0.out | exact dkL_dry A0.out | exact Lay.nil_rd _ _))).mono ?_; rintro e' w71 ⟨_, m71, rfl, ⟨B71, HB71, rfl⟩, hk⟩; replace hS := hS.call hk; (try replace A0 := Lib.hid (Lay.mono _ hk.le A0.out)); replace hle := hle.trans hk.le; clear hk; go_wp2_with fail) | (refine ifNo ?_ ?_; focus (first | exact Bool.false_ne_true | (go_simp <;> fail)))
          refine hK.out _ _ (by first | exact (hS.sx0.cons hS (by (repeat constructor))) | exact Sx.le (by assumption) (hS.sx0.cons hS (by (repeat constructor)))) (fun hHeld => ?_)
          clear hK K
          try simp only [Act.put, nz1, nz2, nz3]
          first | (focus (refine takeG 14 (v := ?_) rfl (by kernel_rfl) ?_ ?_ ?_; rotate_left; (focus (first | rfl | (go_simp <;> fail))); (focus (intro w hSw; clear hSw; go_simp; try with_reducible rfl)))) | (refine skipG 14 rfl (by kernel_rfl) ?_ ?_; (focus (first | rfl | (go_simp <;> fail))))
          try simp only [Act.put, nz1, nz2, nz3]
          focus (refine takeN 15 (v := ?_) rfl (by kernel_rfl) ?_ ?_; rotate_left; focus (intro w hSw; clear hSw; go_simp; try with_reducible rfl))
          try simp only [Act.put, nz1, nz2, nz3]
          refine wpAnyH_done (by kernel_rfl) ?_ _
          refine NoPanic.normal ?_
          all_goals
            go_wp2_with fail
            go_ret2
            exact .inr ⟨HB.out, rfl, hS.done.less (Mem.Le.refl _)⟩
      · obtain ⟨V, hV⟩ : ∃ V, (dirF s k x).getD 0 = V := ⟨_, rfl⟩
        have HLk : Hid ((dirF s k x).getD 0 = V ∧ (dirF s k x).isSome = false) := ⟨hV, hmet⟩
        have HB := Lib.hid (hN hb)
        have Hq : Hid (decide (0 ≤ x ∧ x ≤ 2147483647) = true) := decide_eq_true his
        have Hf : Hid (decide (fitsV s.dim v) = false) := decide_eq_false hfit
        have hx : ¬ x = -1 := h0
        clear hA hN hneg HSk HPut hlook hb hmet hV h0 his hfit hkk hsz
        go_wp2_with (first
    | ((with_reducible refine' Wl.out ?_; apply k_box (ty := 32) (y := (.tmp 0)) hS); (· exact .mk); clear hS; intro w1 b1 hS)
    | ((with_reducible refine' Wl.out ?_; apply k_load hS); (· exact .mk))
    | ((with_reducible refine' Wl.out ?_; apply k_loads hS); (· exact .mk))
    | go_skip
    | ((with_reducible refine' Wl.out ?_; apply kg_load hS); iterate 2 (· exact .mk))
    | ((with_reducible refine' Wl.out ?_; apply kg_loads hS); iterate 2 (· exact .mk))
    | ((with_reducible refine' Wl.out ?_; refine' wg_case ?_ ?_) <;> (intro hgW; (try (have hg2 := hgW; simp [go_sem] at hg2)); (first | (exfalso; assumption) | ((with_reducible refine' Wl.out ?_; apply k_no hgW)) | ((with_reducible refine' Wl.out ?_; apply kg_load hS ⟨hgW⟩); (· exact .mk)) | ((with_reducible refine' Wl.out ?_; apply kg_loads hS ⟨hgW⟩); (· exact .mk))); clear hgW))
    | ((with_reducible refine' Wl.out ?_; apply wl_lookup2 hS mapT); (· exact rfl); (· (repeat constructor)); (· exact rfl); (· exact HK.out); (· exact HLk.out)))
        replace hS := hS.drew
        have hle := hS.leSelf
        refine startL (S := Sx _ [(b1, _)]) (by kernel_rfl) (hS.sx0.cons hS (by (repeat constructor))) (fun _ _ _ _ => trivial) (fun hHeld => ?_)
        focus (refine takeN 0 (v := ?_) rfl (by kernel_rfl) ?_ ?_; rotate_left; focus (intro w hSw; clear hSw; go_simp; try with_reducible rfl))
        try simp only [Act.put, nz1, nz2, nz3]
        focus (refine takeN 1 (v := ?_) rfl (by kernel_rfl) ?_ ?_; rotate_left; focus (intro w hSw; clear hSw; go_simp; try with_reducible rfl))
        try simp only [Act.put, nz1, nz2, nz3]
        first | (focus (refine takeG 2 (v := ?_) rfl (by kernel_rfl) ?_ ?_ ?_; rotate_left; (focus (first | rfl | (go_simp <;> fail))); (focus (intro w hSw; clear hSw; go_simp; try with_reducible rfl)))) | (refine skipG 2 rfl (by kernel_rfl) ?_ ?_; (focus (first | rfl | (go_simp <;> fail))))
        try simp only [Act.put, nz1, nz2, nz3]
        refine wpAnyH_ready (rs := [3]) (by kernel_rfl) (by simp) ?_
        refine consL 3 rfl (fun K hK => ?_) AllReadyH.nil
        first | (refine ifYes ?_ ?_; (focus rfl); go_simp; refine (letB (is_c _ _ hS.inw _)).mono ?_; rintro e' w61 ⟨_, m61, rfl, ⟨B61, HB61, rfl⟩, hk⟩; replace hS := hS.call hk; (try replace A0 := Lib.hid (Lay.mono _ hk.le A0.out)); replace hle := hle.trans hk.le; clear hk; obtain rfl : B61 = true := HB61.out.trans Hq.out; go_wp2_with fail) | (refine ifNo ?_ ?_; focus (first | exact Bool.false_ne_true | (go_simp <;> fail)))
        refine hK.out _ _ (by first | exact (hS.sx0.cons hS (by (repeat constructor))) | exact Sx.le (by assumption) (hS.sx0.cons hS (by (repeat constructor)))) (fun hHeld => ?_)
        clear hK K
        try simp only [Act.put, nz1, nz2, nz3]
        first | (focus (refine takeG 4 (v := ?_) rfl (by kernel_rfl) ?_ ?_ ?_; rotate_left; (focus (first | rfl | (go_simp <;> fail))); (focus (intro w hSw; clear hSw; go_simp; try with_reducible rfl)))) | (refine skipG 4 rfl (by kernel_rfl) ?_ ?_; (focus (first | rfl | (go_simp <;> fail))))
        try simp only [Act.put, nz1, nz2, nz3]
        focus (refine takeN 5 (v := ?_) rfl (by kernel_rfl) ?_ ?_; rotate_left; focus (intro w hSw; clear hSw; go_simp; try with_reducible rfl))
        try simp only [Act.put, nz1, nz2, nz3]
        focus (refine takeN 6 (v := ?_) rfl (by kernel_rfl) ?_ ?_; rotate_left; focus (intro w hSw; clear hSw; go_simp; try with_reducible rfl))
        try simp only [Act.put, nz1, nz2, nz3]
        first | (focus (refine' takeG 7 rfl (by kernel_rfl) ?_ ?_ ?_; rotate_left; (focus (first | rfl | (go_simp <;> fail))); (focus (intro w hSw; refine' yield_loads rfl rowT32 rfl ?_ w hSw; (first | (apply FindsX.box; (· (repeat constructor)); (· (repeat constructor)); done) | (refine FindsX.mem (by assumption) ?_; first | rfl | assumption | (simp; done))))))) | (refine skipG 7 rfl (by kernel_rfl) ?_ ?_; (focus (first | rfl | (go_simp <;> fail))))
        try simp only [Act.put, nz1, nz2, nz3]
        first | (focus (refine takeG 8 (v := ?_) rfl (by kernel_rfl) ?_ ?_ ?_; rotate_left; (focus (first | rfl | (go_simp <;> fail))); (focus (intro w hSw; clear hSw; go_simp; try with_reducible rfl)))) | (refine skipG 8 rfl (by kernel_rfl) ?_ ?_; (focus (first | rfl | (go_simp <;> fail))))
        try simp only [Act.put, nz1, nz2, nz3]
        first | (focus (refine' takeG 9 rfl (by kernel_rfl) ?_ ?_ ?_; rotate_left; (focus (first | rfl | (go_simp <;> fail))); (focus (intro w hSw; refine' yield_load rfl Tryz.underlying30 rfl rfl ?_ w hSw; (first | (apply FindX.box; (· (repeat constructor)); rfl) | exact FindX.mem (by assumption)))))) | (refine skipG 9 rfl (by kernel_rfl) ?_ ?_; (focus (first | rfl | (go_simp <;> fail))))
        try simp only [Act.put, nz1, nz2, nz3]
        first | (focus (refine takeG 10 (v := ?_) rfl (by kernel_rfl) ?_ ?_ ?_; rotate_left; (focus (first | rfl | (go_simp <;> fail))); (focus (intro w hSw; clear hSw; go_simp; try with_reducible rfl)))) | (refine skipG 10 rfl (by kernel_rfl) ?_ ?_; (focus (first | rfl | (go_simp <;> fail))))
        try simp only [Act.put, nz1, nz2, nz3]
        first | (focus (refine takeG 11 (v := ?_) rfl (by kernel_rfl) ?_ ?_ ?_; rotate_left; (focus (first | rfl | (go_simp <;> fail))); (focus (intro w hSw; clear hSw; go_simp; try with_reducible rfl)))) | (refine skipG 11 rfl (by kernel_rfl) ?_ ?_; (focus (first | rfl | (go_simp <;> fail))))
        try simp only [Act.put, nz1, nz2, nz3]
        first | (focus (refine' takeG 12 rfl (by kernel_rfl) ?_ ?_ ?_; rotate_left; (focus (first | rfl | (go_simp <;> fail))); (focus (intro w hSw; refine' yield_load rfl Tryz.underlying26 rfl rfl ?_ w hSw; (first | (apply FindX.box; (· (repeat constructor)); rfl) | exact FindX.mem (by assumption)))))) | (refine skipG 12 rfl (by kernel_rfl) ?_ ?_; (focus (first | rfl | (go_simp <;> fail))))
        try simp only [Act.put, nz1, nz2, nz3]
        refine wpAnyH_ready (rs := [13]) (by kernel_rfl) (by simp) ?_
        refine consL 13 rfl (fun K hK => ?_) AllReadyH.nil
        first | (refine ifYes ?_ ?_; (focus rfl); go_simp; refine (letB (fits_c _ _ hS.inw _ _ _ _ _ (by first | exact A0.out | exact dkL_dry A0.out | exact Lay.nil_rd _ _))).mono ?_; rintro e' w71 ⟨_, m71, rfl, ⟨B71, HB71, rfl⟩, hk⟩; replace hS := hS.call hk; (try replace A0 := Lib.hid (Lay.mono _ hk.le A0.out)); replace hle := hle.trans hk.le; clear hk; obtain rfl : B71 = false := HB71.out.trans Hf.out; go_wp2_with fail) | (refine ifNo ?_ ?_; focus (first | exact Bool.false_ne_true | (go_simp <;> fail)))
        refine hK.out _ _ (by first | exact (hS.sx0.cons hS (by (repeat constructor))) | exact Sx.le (by assumption) (hS.sx0.cons hS (by (repeat constructor)))) (fun hHeld => ?_)
        clear hK K
        try simp only [Act.put, nz1, nz2, nz3]
        first | (focus (refine takeG 14 (v := ?_) rfl (by kernel_rfl) ?_ ?_ ?_; rotate_left; (focus (first | rfl | (go_simp <;> fail))); (focus (intro w hSw; clear hSw; go_simp; try with_reducible rfl)))) | (refine skipG 14 rfl (by kernel_rfl) ?_ ?_; (focus (first | rfl | (go_simp <;> fail))))
        try simp only [Act.put, nz1, nz2, nz3]
        focus (refine takeN 15 (v := ?_) rfl (by kernel_rfl) ?_ ?_; rotate_left; focus (intro w hSw; clear hSw; go_simp; try with_reducible rfl))
        try simp only [Act.put, nz1, nz2, nz3]
        refine wpAnyH_done (by kernel_rfl) ?_ _
        refine NoPanic.normal ?_
        all_goals
          go_wp2_with fail
          go_ret2
          exact .inr ⟨HB.out, rfl, hS.done.less (Mem.Le.refl _)⟩
      · obtain ⟨V, hV⟩ : ∃ V, (dirF s k x).getD 0 = V := ⟨_, rfl⟩
        have HLk : Hid ((dirF s k x).getD 0 = V ∧ (dirF s k x).isSome = false) := ⟨hV, hmet⟩
        have HA := hA hg
        have HF := Lib.hid (HPut.out h0)
        have Hq : Hid (decide (0 ≤ x ∧ x ≤ 2147483647) = true) := decide_eq_true his
        have Hf : Hid (decide (fitsV s.dim v) = true) := decide_eq_true hfit
        have hx : ¬ x = -1 := h0
        have HKK := Lib.hid hkk
        clear hA hN hneg HSk HPut hlook hg hmet hV h0 his hfit hkk
        go_wp2_with (first
    | ((with_reducible refine' Wl.out ?_; apply k_box (ty := 32) (y := (.tmp 0)) hS); (· exact .mk); clear hS; intro w1 b1 hS)
    | ((with_reducible refine' Wl.out ?_; apply k_load hS); (· exact .mk))
    | ((with_reducible refine' Wl.out ?_; apply k_loads hS); (· exact .mk))
    | go_skip
    | ((with_reducible refine' Wl.out ?_; apply kg_load hS); iterate 2 (· exact .mk))
    | ((with_reducible refine' Wl.out ?_; apply kg_loads hS); iterate 2 (· exact .mk))
    | ((with_reducible refine' Wl.out ?_; refine' wg_case ?_ ?_) <;> (intro hgW; (try (have hg2 := hgW; simp [go_sem] at hg2)); (first | (exfalso; assumption) | ((with_reducible refine' Wl.out ?_; apply k_no hgW)) | ((with_reducible refine' Wl.out ?_; apply kg_load hS ⟨hgW⟩); (· exact .mk)) | ((with_reducible refine' Wl.out ?_; apply kg_loads hS ⟨hgW⟩); (· exact .mk))); clear hgW))
    | ((with_reducible refine' Wl.out ?_; apply wl_lookup2 hS mapT); (· exact rfl); (· (repeat constructor)); (· exact rfl); (· exact HK.out); (· exact HLk.out)))
        replace hS := hS.drew
        have hle := hS.leSelf
        refine startL (S := Sx _ [(b1, _)]) (by kernel_rfl) (hS.sx0.cons hS (by (repeat constructor))) (fun _ _ _ _ => trivial) (fun hHeld => ?_)
        focus (refine takeN 0 (v := ?_) rfl (by kernel_rfl) ?_ ?_; rotate_left; focus (intro w hSw; clear hSw; go_simp; try with_reducible rfl))
        try simp only [Act.put, nz1, nz2, nz3]
        focus (refine takeN 1 (v := ?_) rfl (by kernel_rfl) ?_ ?_; rotate_left; focus (intro w hSw; clear hSw; go_simp; try with_reducible rfl))
        try simp only [Act.put, nz1, nz2, nz3]
        first | (focus (refine takeG 2 (v := ?_) rfl (by kernel_rfl) ?_ ?_ ?_; rotate_left; (focus (first | rfl | (go_simp <;> fail))); (focus (intro w hSw; clear hSw; go_simp; try with_reducible rfl)))) | (refine skipG 2 rfl (by kernel_rfl) ?_ ?_; (focus (first | rfl | (go_simp <;> fail))))
        try simp only [Act.put, nz1, nz2, nz3]
        refine wpAnyH_ready (rs := [3]) (by kernel_rfl) (by simp) ?_
        refine consL 3 rfl (fun K hK => ?_) AllReadyH.nil
        first | (refine ifYes ?_ ?_; (focus rfl); go_simp; refine (letB (is_c _ _ hS.inw _)).mono ?_; rintro e' w61 ⟨_, m61, rfl, ⟨B61, HB61, rfl⟩, hk⟩; replace hS := hS.call hk; (try replace A0 := Lib.hid (Lay.mono _ hk.le A0.out)); replace hle := hle.trans hk.le; clear hk; obtain rfl : B61 = true := HB61.out.trans Hq.out; go_wp2_with fail) | (refine ifNo ?_ ?_; focus (first | exact Bool.false_ne_true | (go_simp <;> fail)))
        refine hK.out _ _ (by first | exact (hS.sx0.cons hS (by (repeat constructor))) | exact Sx.le (by assumption) (hS.sx0.cons hS (by (repeat constructor)))) (fun hHeld => ?_)
        clear hK K
        try simp only [Act.put, nz1, nz2, nz3]
        first | (focus (refine takeG 4 (v := ?_) rfl (by kernel_rfl) ?_ ?_ ?_; rotate_left; (focus (first | rfl | (go_simp <;> fail))); (focus (intro w hSw; clear hSw; go_simp; try with_reducible rfl)))) | (refine skipG 4 rfl (by kernel_rfl) ?_ ?_; (focus (first | rfl | (go_simp <;> fail))))
        try simp only [Act.put, nz1, nz2, nz3]
        focus (refine takeN 5 (v := ?_) rfl (by kernel_rfl) ?_ ?_; rotate_left; focus (intro w hSw; clear hSw; go_simp; try with_reducible rfl))
        try simp only [Act.put, nz1, nz2, nz3]
        focus (refine takeN 6 (v := ?_) rfl (by kernel_rfl) ?_ ?_; rotate_left; focus (intro w hSw; clear hSw; go_simp; try with_reducible rfl))
        try simp only [Act.put, nz1, nz2, nz3]
        first | (focus (refine' takeG 7 rfl (by kernel_rfl) ?_ ?_ ?_; rotate_left; (focus (first | rfl | (go_simp <;> fail))); (focus (intro w hSw; refine' yield_loads rfl rowT32 rfl ?_ w hSw; (first | (apply FindsX.box; (· (repeat constructor)); (· (repeat constructor)); done) | (refine FindsX.mem (by assumption) ?_; first | rfl | assumption | (simp; done))))))) | (refine skipG 7 rfl (by kernel_rfl) ?_ ?_; (focus (first | rfl | (go_simp <;> fail))))
        try simp only [Act.put, nz1, nz2, nz3]
        first | (focus (refine takeG 8 (v := ?_) rfl (by kernel_rfl) ?_ ?_ ?_; rotate_left; (focus (first | rfl | (go_simp <;> fail))); (focus (intro w hSw; clear hSw; go_simp; try with_reducible rfl)))) | (refine skipG 8 rfl (by kernel_rfl) ?_ ?_; (focus (first | rfl | (go_simp <;> fail))))
        try simp only [Act.put, nz1, nz2, nz3]
        first | (focus (refine' takeG 9 rfl (by kernel_rfl) ?_ ?_ ?_; rotate_left; (focus (first | rfl | (go_simp <;> fail))); (focus (intro w hSw; refine' yield_load rfl Tryz.underlying30 rfl rfl ?_ w hSw; (first | (apply FindX.box; (· (repeat constructor)); rfl) | exact FindX.mem (by assumption)))))) | (refine skipG 9 rfl (by kernel_rfl) ?_ ?_; (focus (first | rfl | (go_simp <;> fail))))
        try simp only [Act.put, nz1, nz2, nz3]
        first | (focus (refine takeG 10 (v := ?_) rfl (by kernel_rfl) ?_ ?_ ?_; rotate_left; (focus (first | rfl | (go_simp <;> fail))); (focus (intro w hSw; clear hSw; go_simp; try with_reducible rfl)))) | (refine skipG 10 rfl (by kernel_rfl) ?_ ?_; (focus (first | rfl | (go_simp <;> fail))))
        try simp only [Act.put, nz1, nz2, nz3]
        first | (focus (refine takeG 11 (v := ?_) rfl (by kernel_rfl) ?_ ?_ ?_; rotate_left; (focus (first | rfl | (go_simp <;> fail))); (focus (intro w hSw; clear hSw; go_simp; try with_reducible rfl)))) | (refine skipG 11 rfl (by kernel_rfl) ?_ ?_; (focus (first | rfl | (go_simp <;> fail))))
        try simp only [Act.put, nz1, nz2, nz3]
        first | (focus (refine' takeG 12 rfl (by kernel_rfl) ?_ ?_ ?_; rotate_left; (focus (first | rfl | (go_simp <;> fail))); (focus (intro w hSw; refine' yield_load rfl Tryz.underlying26 rfl rfl ?_ w hSw; (first | (apply FindX.box; (· (repeat constructor)); rfl) | exact FindX.mem (by assumption)))))) | (refine skipG 12 rfl (by kernel_rfl) ?_ ?_; (focus (first | rfl | (go_simp <;> fail))))
        try simp only [Act.put, nz1, nz2, nz3]
        refine wpAnyH_ready (rs := [13]) (by kernel_rfl) (by simp) ?_
        refine consL 13 rfl (fun K hK => ?_) AllReadyH.nil
        first | (refine ifYes ?_ ?_; (focus rfl); go_simp; refine (letB (fits_c _ _ hS.inw _ _ _ _ _ (by first | exact A0.out | exact dkL_dry A0.out | exact Lay.nil_rd _ _))).mono ?_; rintro e' w71 ⟨_, m71, rfl, ⟨B71, HB71, rfl⟩, hk⟩; replace hS := hS.call hk; (try replace A0 := Lib.hid (Lay.mono _ hk.le A0.out)); replace hle := hle.trans hk.le; clear hk; obtain rfl : B71 = true := HB71.out.trans Hf.out; go_wp2_with fail) | (refine ifNo ?_ ?_; focus (first | exact Bool.false_ne_true | (go_simp <;> fail)))
        refine hK.out _ _ (by first | exact (hS.sx0.cons hS (by (repeat constructor))) | exact Sx.le (by assumption) (hS.sx0.cons hS (by (repeat constructor)))) (fun hHeld => ?_)
        clear hK K
        try simp only [Act.put, nz1, nz2, nz3]
        first | (focus (refine takeG 14 (v := ?_) rfl (by kernel_rfl) ?_ ?_ ?_; rotate_left; (focus (first | rfl | (go_simp <;> fail))); (focus (intro w hSw; clear hSw; go_simp; try with_reducible rfl)))) | (refine skipG 14 rfl (by kernel_rfl) ?_ ?_; (focus (first | rfl | (go_simp <;> fail))))
        try simp only [Act.put, nz1, nz2, nz3]
        focus (refine takeN 15 (v := ?_) rfl (by kernel_rfl) ?_ ?_; rotate_left; focus (intro w hSw; clear hSw; go_simp; try with_reducible rfl))
        try simp only [Act.put, nz1, nz2, nz3]
        refine wpAnyH_done (by kernel_rfl) ?_ _
        refine NoPanic.normal ?_
        all_goals
          go_wp2_with (first
            | ((with_reducible refine' Wl.out ?_; apply wl_mapUpdate (c := (k : Int)) hS mapT); (· exact rfl); (· exact rfl); (· exact HK.out); (· exact rfl); (· exact HKK.out); (· exact hsz); (· exact HF.out); (· repeat constructor); clear hS; intro w9 hS))
          go_roundw
          case rel => exact ⟨k + 1, n + 1, hlt, by go_num, by omega, HA, hS.less (Mem.Le.refl _)⟩
          case measure => simp [intOf]; omega
    · obtain rfl : k = s.ids.length := by omega
      go_wp2_with (first
    | ((with_reducible refine' Wl.out ?_; apply k_box (ty := 32) (y := (.tmp 0)) hS); (· exact .mk); clear hS; intro w1 b1 hS)
    | ((with_reducible refine' Wl.out ?_; apply k_load hS); (· exact .mk))
    | ((with_reducible refine' Wl.out ?_; apply k_loads hS); (· exact .mk))
    | go_skip
    | ((with_reducible refine' Wl.out ?_; apply kg_load hS); iterate 2 (· exact .mk))
    | ((with_reducible refine' Wl.out ?_; apply kg_loads hS); iterate 2 (· exact .mk))
    | ((with_reducible refine' Wl.out ?_; refine' wg_case ?_ ?_) <;> (intro hgW; (try (have hg2 := hgW; simp [go_sem] at hg2)); (first | (exfalso; assumption) | ((with_reducible refine' Wl.out ?_; apply k_no hgW)) | ((with_reducible refine' Wl.out ?_; apply kg_load hS ⟨hgW⟩); (· exact .mk)) | ((with_reducible refine' Wl.out ?_; apply kg_loads hS ⟨hgW⟩); (· exact .mk))); clear hgW)))
      go_ret2
      exact .inl ⟨hyes.out hall.out, b32, n, by omega, rfl, (hS.drop _ (by simp)).less (Mem.Le.refl _)⟩
noncomputable instance (s : Sl) : Decidable (dirOK s) := Classical.propDecidable _
noncomputable def chkS (s : Sl) : Int := if dirOK s then 0 else 1
set_option maxRecDepth 100000 in
set_option maxHeartbeats 4000000 in
theorem scheck_c (m : Mem) (w : World) (hm : m.In w) (v0 v1 v2 : Value) (s : Sl) (h : slL.rd m [v0, v1, v2] s) :
    Calls Tryz.prog 21 #[.agg #[v0, v1, v2]] w (Ret w m fun v _ => v = .int .i64 (chkS s)) := by
  have hS := St.start hm
  have A0 := Lib.hid h
  clear h
  go_enter Tryz.func21, Tryz.ntmps21
  go_wp2_with (first
    | ((with_reducible refine' Wl.out ?_; apply k_box (ty := 32) (y := (.tmp 0)) hS); (· exact .mk); clear hS; intro w1 b1 hS)
    | ((with_reducible refine' Wl.out ?_; apply k_loads hS); (· exact .mk))
    | (go_at_call 52; refine (directory_c m _ hS.inw _ s A0.out).mono ?_; rintro e' w7 (⟨hok, b, n, hn, rfl, hk⟩ | ⟨hok, rfl, hk⟩) <;> (replace hS := hS.callOwn hk; clear hk; replace hok := Lib.hid hok)))
  · go_ret
    exact ⟨_, m, rfl, by unfold chkS; rw [if_pos hok.out]; rfl, hS.done⟩
  · go_ret
    exact ⟨_, m, rfl, by unfold chkS; rw [if_neg hok.out]; rfl, hS.done⟩
end Go.Proofs.YtnbhhdncbajkgaaGreatDoor
