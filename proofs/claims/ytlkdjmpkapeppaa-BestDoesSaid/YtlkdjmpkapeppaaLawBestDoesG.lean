/- The walk of BestDoes. -/
import Derived.Test.YtlkdjmpkapeppaaBr4G
namespace Go.Proofs.Ytlkdjmpkapeppaa
set_option linter.unusedVariables false
set_option linter.unusedSimpArgs false
open Go.RowKit Go.Shelf
set_option maxRecDepth 100000 in
set_option maxHeartbeats 8000000 in
theorem does_walk (w : World) (q : Option Addr) (c : Nat) (l : List Hit) (hr : hitL.list.rd (World.mem w) [.slice q l.length c] l) (K : Int) (hk : InK .i64 K) (d i : Int) (hd : InK .i64 d) (hi : InK .i64 i) (d2 i2 : Int) (hl : l.length ≤ 300)
    (X : Int) (hX : addX l K ⟨d, i⟩ = X) (hX3 : X = 0 ∨ X = 1 ∨ X = 6) :
    Calls Try.prog 6 #[.slice q l.length c, .int .i64 K, .agg #[.int .i64 d, .int .i64 i], .agg #[.int .i64 d2, .int .i64 i2]] w fun e w' => e = .returned (.bool true) ∧ Below w.heap.size w w' := by
  have hS := St.start (World.mem_in w)
  have A0 := Lib.hid hr
  have I0 := Lib.hid hk
  have I1 := Lib.hid hd
  have I2 := Lib.hid hi
  have HX := Lib.hid hX
  have hl' : ¬ (300 : Int) < l.length := by omega
  have hl2 : l.length ≤ 100000 := by omega
  clear hr hk hd hi hX hl
  rcases hX3 with rfl | rfl | rfl
  all_goals
    go_enter Try.func6, Try.ntmps6
    go_wp2_with (first
    | ((with_reducible refine' Wl.out ?_; apply k_box (ty := 30) (y := (.tmp 2)) hS); (· exact .mk); clear hS; intro w6 b6 hS)
    | ((with_reducible refine' Wl.out ?_; apply k_box (ty := 30) (y := (.tmp 3)) hS); (· exact .mk); clear hS; intro w7 b7 hS)
    | ((with_reducible refine' Wl.out ?_; apply k_alloc (ty := 30) (dst := some 15) hS); (· exact .mk); clear hS; intro w15 b15 hS)
    | ((with_reducible refine' Wl.out ?_; apply k_alloc (ty := 30) (dst := some 18) hS); (· exact .mk); clear hS; intro w18 b18 hS)
    | ((with_reducible refine' Wl.out ?_; apply k_load hS); (· exact .mk))
    | ((with_reducible refine' Wl.out ?_; apply k_loads hS); (· exact .mk))
    | go_skip
    | ((with_reducible refine' Wl.out ?_; apply kg_load hS); iterate 2 (· exact .mk))
    | ((with_reducible refine' Wl.out ?_; apply kg_loads hS); iterate 2 (· exact .mk))
    | ((with_reducible refine' Wl.out ?_; refine' wg_case ?_ ?_) <;> (intro hgW; (try (have hg2 := hgW; simp [go_sem] at hg2)); (first | (exfalso; assumption) | ((with_reducible refine' Wl.out ?_; apply k_no hgW)) | ((with_reducible refine' Wl.out ?_; apply kg_load hS ⟨hgW⟩); (· exact .mk)) | ((with_reducible refine' Wl.out ?_; apply kg_loads hS ⟨hgW⟩); (· exact .mk))); clear hgW))
    | ((with_reducible refine' Wl.out ?_; apply k_store hS); (· exact .mk); clear hS; intro ws hS)
    | ((with_reducible refine' Wl.out ?_; apply k_storeR hS); (· exact .mk); clear hS; intro ws hS)
    | ((with_reducible refine' Wl.out ?_; apply k_stores hS); (· exact .mk); clear hS; intro ws hS)
    | (go_at_call 11; (fail_if_success (clear Mk27)); refine (live16_c _ _ hS.inw).mono ?_; rintro e' w27 ⟨_, m27, rfl, rfl, hk⟩; replace hS := hS.call hk; (try replace A0 := Lib.hid (Lay.mono _ hk.le A0.out)); (try replace A1 := Lib.hid (Lay.mono _ hk.le A1.out)); (try replace R40 := Lib.hid (Lay.mono _ hk.le R40.out)); (try replace R47 := Lib.hid (Lay.mono _ hk.le R47.out)); (try replace R67 := Lib.hid (Lay.mono _ hk.le R67.out)); (try replace R73 := Lib.hid (Lay.mono _ hk.le R73.out)); (try replace HC := Lib.hid (CellsOf.mono hk.le HC.out)); clear hk; have Mk27 := True.intro)
    | (go_at_call 17; (fail_if_success (clear Mk47)); refine (letRH (radd16_v _ _ hS.inw _ _ (by first | exact A0.out | exact A1.out | exact R40.out | exact R47.out | exact R67.out | exact R73.out | exact dkL_dry A0.out | exact dkL_dry A1.out | exact Lay.nil_rd _ _) _ (by first | exact I0.out | exact I1.out | exact I2.out | exact inK64 (by omega) (by omega) | assumption) _ _ (by first | exact I0.out | exact I1.out | exact I2.out | exact inK64 (by omega) (by omega) | assumption) (by first | exact I0.out | exact I1.out | exact I2.out | exact inK64 (by omega) (by omega) | assumption))).mono ?_; rintro e' w47 ⟨_, m47, rfl, ⟨p47, c47, Y47, E47, HY47, HE47, rfl, R47, C47⟩, hk⟩; replace hS := hS.call hk; (try replace A0 := Lib.hid (Lay.mono _ hk.le A0.out)); (try replace A1 := Lib.hid (Lay.mono _ hk.le A1.out)); (try replace R40 := Lib.hid (Lay.mono _ hk.le R40.out)); (try replace R47 := Lib.hid (Lay.mono _ hk.le R47.out)); (try replace R67 := Lib.hid (Lay.mono _ hk.le R67.out)); (try replace R73 := Lib.hid (Lay.mono _ hk.le R73.out)); (try replace HC := Lib.hid (CellsOf.mono hk.le HC.out)); clear hk; obtain rfl := HE47.out.trans HX.out; have Mk47 := True.intro)
    | (go_at_call 18; (fail_if_success (clear Mk53)); refine (letW (bworst_c _ _ hS.inw _ _ (by first | exact A0.out | exact A1.out | exact R40.out | exact R47.out | exact R67.out | exact R73.out | exact dkL_dry A0.out | exact dkL_dry A1.out | exact Lay.nil_rd _ _) _ (by first | exact I0.out | exact I1.out | exact I2.out | exact inK64 (by omega) (by omega) | assumption))).mono ?_; rintro e' w53 ⟨_, m53, rfl, ⟨W53, B53, E53, HW53, HB53, HE53, rfl⟩, hk⟩; replace hS := hS.call hk; (try replace A0 := Lib.hid (Lay.mono _ hk.le A0.out)); (try replace A1 := Lib.hid (Lay.mono _ hk.le A1.out)); (try replace R40 := Lib.hid (Lay.mono _ hk.le R40.out)); (try replace R47 := Lib.hid (Lay.mono _ hk.le R47.out)); (try replace R67 := Lib.hid (Lay.mono _ hk.le R67.out)); (try replace R73 := Lib.hid (Lay.mono _ hk.le R73.out)); (try replace HC := Lib.hid (CellsOf.mono hk.le HC.out)); clear hk; have Mk53 := True.intro)
    | (go_at_call 19; (fail_if_success (clear Mk60)); refine (letW (rworst16_c _ _ hS.inw _ _ (by first | exact A0.out | exact A1.out | exact R40.out | exact R47.out | exact R67.out | exact R73.out | exact dkL_dry A0.out | exact dkL_dry A1.out | exact Lay.nil_rd _ _) _ (by first | exact I0.out | exact I1.out | exact I2.out | exact inK64 (by omega) (by omega) | assumption))).mono ?_; rintro e' w60 ⟨_, m60, rfl, ⟨W60, B60, E60, HW60, HB60, HE60, rfl⟩, hk⟩; replace hS := hS.call hk; (try replace A0 := Lib.hid (Lay.mono _ hk.le A0.out)); (try replace A1 := Lib.hid (Lay.mono _ hk.le A1.out)); (try replace R40 := Lib.hid (Lay.mono _ hk.le R40.out)); (try replace R47 := Lib.hid (Lay.mono _ hk.le R47.out)); (try replace R67 := Lib.hid (Lay.mono _ hk.le R67.out)); (try replace R73 := Lib.hid (Lay.mono _ hk.le R73.out)); (try replace HC := Lib.hid (CellsOf.mono hk.le HC.out)); clear hk; obtain rfl := HW60.out.trans HW53.out.symm; obtain rfl := HB60.out.trans HB53.out.symm; obtain rfl := HE60.out.trans HE53.out.symm; have Mk60 := True.intro)
    | (go_at_call 14; (fail_if_success (clear Mk67)); refine (letHE sortH_len (bsorted_c _ _ hS.inw _ _ (by first | exact A0.out | exact A1.out | exact R40.out | exact R47.out | exact R67.out | exact R73.out | exact dkL_dry A0.out | exact dkL_dry A1.out | exact Lay.nil_rd _ _) _ (by first | exact I0.out | exact I1.out | exact I2.out | exact inK64 (by omega) (by omega) | assumption))).mono ?_; rintro e' w67 ⟨_, m67, rfl, ⟨p67, c67, Y67, E67, HY67, HE67, rfl, R67, C67⟩, hk⟩; replace hS := hS.call hk; (try replace A0 := Lib.hid (Lay.mono _ hk.le A0.out)); (try replace A1 := Lib.hid (Lay.mono _ hk.le A1.out)); (try replace R40 := Lib.hid (Lay.mono _ hk.le R40.out)); (try replace R47 := Lib.hid (Lay.mono _ hk.le R47.out)); (try replace R67 := Lib.hid (Lay.mono _ hk.le R67.out)); (try replace R73 := Lib.hid (Lay.mono _ hk.le R73.out)); (try replace HC := Lib.hid (CellsOf.mono hk.le HC.out)); clear hk; have Mk67 := True.intro)
    | (go_at_call 20; (fail_if_success (clear Mk73)); refine (letRH (rsorted16_c _ _ hS.inw _ _ (by first | exact A0.out | exact A1.out | exact R40.out | exact R47.out | exact R67.out | exact R73.out | exact dkL_dry A0.out | exact dkL_dry A1.out | exact Lay.nil_rd _ _) _ (by first | exact I0.out | exact I1.out | exact I2.out | exact inK64 (by omega) (by omega) | assumption))).mono ?_; rintro e' w73 ⟨_, m73, rfl, ⟨p73, c73, Y73, E73, HY73, HE73, rfl, R73, C73⟩, hk⟩; replace hS := hS.call hk; (try replace A0 := Lib.hid (Lay.mono _ hk.le A0.out)); (try replace A1 := Lib.hid (Lay.mono _ hk.le A1.out)); (try replace R40 := Lib.hid (Lay.mono _ hk.le R40.out)); (try replace R47 := Lib.hid (Lay.mono _ hk.le R47.out)); (try replace R67 := Lib.hid (Lay.mono _ hk.le R67.out)); (try replace R73 := Lib.hid (Lay.mono _ hk.le R73.out)); (try replace HC := Lib.hid (CellsOf.mono hk.le HC.out)); clear hk; obtain rfl := HY73.out.trans HY67.out.symm; obtain rfl := HE73.out.trans HE67.out.symm; have Mk73 := True.intro)
    | (go_at_call 15; (fail_if_success (clear Mk113)); refine (letB (same16_c _ _ hS.inw _ _ _ _ (by first | exact A0.out | exact A1.out | exact R40.out | exact R47.out | exact R67.out | exact R73.out | exact dkL_dry A0.out | exact dkL_dry A1.out | exact Lay.nil_rd _ _) (by first | exact A0.out | exact A1.out | exact R40.out | exact R47.out | exact R67.out | exact R73.out | exact dkL_dry A0.out | exact dkL_dry A1.out | exact Lay.nil_rd _ _))).mono ?_; rintro e' w113 ⟨_, m113, rfl, ⟨B113, HB113, rfl⟩, hk⟩; replace hS := hS.call hk; (try replace A0 := Lib.hid (Lay.mono _ hk.le A0.out)); (try replace A1 := Lib.hid (Lay.mono _ hk.le A1.out)); (try replace R40 := Lib.hid (Lay.mono _ hk.le R40.out)); (try replace R47 := Lib.hid (Lay.mono _ hk.le R47.out)); (try replace R67 := Lib.hid (Lay.mono _ hk.le R67.out)); (try replace R73 := Lib.hid (Lay.mono _ hk.le R73.out)); (try replace HC := Lib.hid (CellsOf.mono hk.le HC.out)); clear hk; obtain rfl : B113 = true := HB113.out.trans (decide_eq_true rfl); have Mk113 := True.intro)
      | (go_at_call 12; refine (letOwn (badd_v _ _ hS.inw _ _ A0.out _ I0.out _ _ I1.out I2.out)).mono ?_; rintro e' w40 ⟨q40, c40, Y40, E40, HY40, HE40, rfl, HI40, hk⟩; replace hS := hS.callOwn hk; clear hk; simp only [List.cons_append, List.nil_append] at hS; obtain rfl := HE40.out.trans HX.out; have HN40 := Lib.hid (show Y40.length ≤ 256 from Eq.subst (motive := fun z => z.length ≤ 256) HY40.out.symm addH_len))
      | (go_at_call 21; refine (order16_c (World.mem _) _ (World.mem_in _) _ Y40 (hS.rdRow 2 rfl HI40.out (Nat.le_trans HN40.out (by decide))) (Nat.le_trans HN40.out (by decide))).mono ?_; rintro e' w81 ⟨_, m81, rfl, ⟨q81, c81, rfl, R81⟩, hk⟩; have RR81 := Lib.hid (Lay.mono _ hk.inw R81); replace hS := hS.grow (grownBy_of_below hk.below); clear hk R81)
      | (go_at_call 15; refine (same16_c (World.mem _) _ (World.mem_in _) _ _ _ _ RR81.out (Lay.mono _ hS.inw R47.out)).mono ?_; rintro e' w83 ⟨_, m83, rfl, hv83, hk⟩; replace hS := hS.grow (grownBy_of_below hk.below); clear hk RR81; rw [decide_eq_true (show srt Y40 = Y47 from (congrArg srt HY40.out).trans ((srt_addH _ _ _).trans HY47.out.symm))] at hv83; subst hv83)
      | (go_at_call 22; refine (rcheck16_c (World.mem _) _ (World.mem_in _) _ Y40 (hS.rdRow 2 rfl HI40.out (Nat.le_trans HN40.out (by decide))) _ I0.out).mono ?_; rintro e' w91 ⟨_, m91, rfl, hv91, hk⟩; replace hS := hS.grow (grownBy_of_below hk.below); clear hk; rw [show chkE Y40 K = 0 from Eq.subst (motive := fun z => chkE z K = 0) HY40.out.symm (chk_addH HX.out)] at hv91; subst hv91)
      | ((with_reducible refine' Wl.out ?_; apply wl_appH_nil hS); (· exact rfl); (· exact rfl); (· exact A0.out); (· exact rfl); clear hS; intro w35 q35 c35 hS; obtain ⟨m35, hS2, hle2, hrd2⟩ := St.settleH hS rfl (hits_in A0.out) hl2; replace A0 := Lib.hid (Lay.mono _ hle2 A0.out); have A1 := Lib.hid hrd2; replace hS := hS2; clear hS2 hle2 hrd2))
  all_goals
    have HY : Hid (FarC Y40.length (cellsH Y40)) := FarC.of _
    have hy256 : Y40.length ≤ 256 := HN40.out
    clear HY40 HI40 HN40
    go_loopw [122] (fun vi wr => ∃ (k : Nat) (cells : List Value), k ≤ Y40.length ∧ vi = .int .i64 k ∧ Hid (FarC Y40.length cells) ∧ St [] w (World.mem w) wr [.box b18 [.int .i64 W60.dist, .int .i64 W60.id], .box b15 [.int .i64 W60.dist, .int .i64 W60.id], rowQ q40 c40 Y40.length cells, .box b7 [.int .i64 d2, .int .i64 i2], .box b6 [.int .i64 d, .int .i64 i]] m113) (fun i _ => Y40.length - (intOf i).toNat)
    case atStart => exact ⟨0, _, Nat.zero_le _, rfl, HY, hS⟩
    case round =>
      clear hS HY
      obtain ⟨k, cells, hk, rfl, HC, hS⟩ := hrel
      by_cases hlt : k < Y40.length
      · obtain ⟨g, rfl⟩ := hS.rowOpen 2 rfl (by omega)
        have hk1 : (k : Int) < Y40.length := by omega
        obtain ⟨x, hx⟩ := HC.out.2 k hlt
        have hx2 : k * 2 < cells.length := by have := HC.out.1; omega
        go_wp2_with (first
    | ((with_reducible refine' Wl.out ?_; apply k_box (ty := 30) (y := (.tmp 2)) hS); (· exact .mk); clear hS; intro w6 b6 hS)
    | ((with_reducible refine' Wl.out ?_; apply k_box (ty := 30) (y := (.tmp 3)) hS); (· exact .mk); clear hS; intro w7 b7 hS)
    | ((with_reducible refine' Wl.out ?_; apply k_alloc (ty := 30) (dst := some 15) hS); (· exact .mk); clear hS; intro w15 b15 hS)
    | ((with_reducible refine' Wl.out ?_; apply k_alloc (ty := 30) (dst := some 18) hS); (· exact .mk); clear hS; intro w18 b18 hS)
    | ((with_reducible refine' Wl.out ?_; apply k_load hS); (· exact .mk))
    | ((with_reducible refine' Wl.out ?_; apply k_loads hS); (· exact .mk))
    | go_skip
    | ((with_reducible refine' Wl.out ?_; apply kg_load hS); iterate 2 (· exact .mk))
    | ((with_reducible refine' Wl.out ?_; apply kg_loads hS); iterate 2 (· exact .mk))
    | ((with_reducible refine' Wl.out ?_; refine' wg_case ?_ ?_) <;> (intro hgW; (try (have hg2 := hgW; simp [go_sem] at hg2)); (first | (exfalso; assumption) | ((with_reducible refine' Wl.out ?_; apply k_no hgW)) | ((with_reducible refine' Wl.out ?_; apply kg_load hS ⟨hgW⟩); (· exact .mk)) | ((with_reducible refine' Wl.out ?_; apply kg_loads hS ⟨hgW⟩); (· exact .mk))); clear hgW))
    | ((with_reducible refine' Wl.out ?_; apply k_store hS); (· exact .mk); clear hS; intro ws hS)
    | ((with_reducible refine' Wl.out ?_; apply k_storeR hS); (· exact .mk); clear hS; intro ws hS)
    | ((with_reducible refine' Wl.out ?_; apply k_stores hS); (· exact .mk); clear hS; intro ws hS))
        go_roundw
        case rel => exact ⟨k + 1, _, hlt, by go_num, HC.out.set k _, hS⟩
        case measure => simp [intOf]; omega
      · obtain rfl : k = Y40.length := by omega
        go_wp2_with fail
        replace hS := hS.drew
        have hle := hS.leSelf
        refine startL (S := Sx _ [(b6, _), (b7, _)]) (by kernel_rfl) ((hS.sx0.cons hS (by (repeat constructor))).cons hS (by (repeat constructor))) (fun _ _ _ _ => trivial) (fun hHeld => ?_)
        focus (refine takeN 0 (v := ?_) rfl (by kernel_rfl) ?_ ?_; rotate_left; focus (intro w hSw; clear hSw; go_simp; try with_reducible rfl))
        try simp only [Act.put, nz1, nz2, nz3]
        focus (refine takeN 1 (v := ?_) rfl (by kernel_rfl) ?_ ?_; rotate_left; focus (intro w hSw; clear hSw; go_simp; try with_reducible rfl))
        try simp only [Act.put, nz1, nz2, nz3]
        first | (focus (refine takeG 2 (v := ?_) rfl (by kernel_rfl) ?_ ?_ ?_; rotate_left; (focus (first | rfl | (go_simp <;> fail))); (focus (intro w hSw; clear hSw; go_simp; try with_reducible rfl)))) | (refine skipG 2 rfl (by kernel_rfl) ?_ ?_; (focus (first | rfl | (go_simp <;> fail))))
        try simp only [Act.put, nz1, nz2, nz3]
        focus (refine takeN 3 (v := ?_) rfl (by kernel_rfl) ?_ ?_; rotate_left; focus (intro w hSw; clear hSw; go_simp; try with_reducible rfl))
        try simp only [Act.put, nz1, nz2, nz3]
        focus (refine takeN 4 (v := ?_) rfl (by kernel_rfl) ?_ ?_; rotate_left; focus (intro w hSw; clear hSw; go_simp; try with_reducible rfl))
        try simp only [Act.put, nz1, nz2, nz3]
        first | (focus (refine takeG 5 (v := ?_) rfl (by kernel_rfl) ?_ ?_ ?_; rotate_left; (focus (first | rfl | (go_simp <;> fail))); (focus (intro w hSw; clear hSw; go_simp; try with_reducible rfl)))) | (refine skipG 5 rfl (by kernel_rfl) ?_ ?_; (focus (first | rfl | (go_simp <;> fail))))
        try simp only [Act.put, nz1, nz2, nz3]
        first | (focus (refine takeG 6 (v := ?_) rfl (by kernel_rfl) ?_ ?_ ?_; rotate_left; (focus (first | rfl | (go_simp <;> fail))); (focus (intro w hSw; clear hSw; go_simp; try with_reducible rfl)))) | (refine skipG 6 rfl (by kernel_rfl) ?_ ?_; (focus (first | rfl | (go_simp <;> fail))))
        try simp only [Act.put, nz1, nz2, nz3]
        first | (focus (refine takeG 8 (v := ?_) rfl (by kernel_rfl) ?_ ?_ ?_; rotate_left; (focus (first | rfl | (go_simp <;> fail))); (focus (intro w hSw; clear hSw; go_simp; try with_reducible rfl)))) | (refine skipG 8 rfl (by kernel_rfl) ?_ ?_; (focus (first | rfl | (go_simp <;> fail))))
        try simp only [Act.put, nz1, nz2, nz3]
        first | (focus (refine takeG 9 (v := ?_) rfl (by kernel_rfl) ?_ ?_ ?_; rotate_left; (focus (first | rfl | (go_simp <;> fail))); (focus (intro w hSw; clear hSw; go_simp; try with_reducible rfl)))) | (refine skipG 9 rfl (by kernel_rfl) ?_ ?_; (focus (first | rfl | (go_simp <;> fail))))
        try simp only [Act.put, nz1, nz2, nz3]
        refine wpAnyH_ready (rs := [7]) (by kernel_rfl) (by simp) ?_
        refine consL 7 rfl (fun K hK => ?_) AllReadyH.nil
        first | (refine ifYes ?_ ?_; (focus rfl); go_simp; refine (letInt (bcheck_c _ _ hS.inw _ _ (by first | exact A0.out | exact A1.out | exact R40.out | exact R47.out | exact R67.out | exact R73.out | exact dkL_dry A0.out | exact dkL_dry A1.out | exact Lay.nil_rd _ _) _ (by first | exact I0.out | exact I1.out | exact I2.out | exact inK64 (by omega) (by omega) | assumption))).mono ?_; rintro e' w141 ⟨_, m141, rfl, ⟨E141, HE141, rfl⟩, hk⟩; replace hS := hS.call hk; (try replace A0 := Lib.hid (Lay.mono _ hk.le A0.out)); (try replace A1 := Lib.hid (Lay.mono _ hk.le A1.out)); (try replace R40 := Lib.hid (Lay.mono _ hk.le R40.out)); (try replace R47 := Lib.hid (Lay.mono _ hk.le R47.out)); (try replace R67 := Lib.hid (Lay.mono _ hk.le R67.out)); (try replace R73 := Lib.hid (Lay.mono _ hk.le R73.out)); (try replace HC := Lib.hid (CellsOf.mono hk.le HC.out)); replace hle := hle.trans hk.le; clear hk; go_wp2_with fail) | (refine ifNo ?_ ?_; focus (first | exact Bool.false_ne_true | (go_simp <;> fail)))
        refine hK.out _ _ (by first | exact ((hS.sx0.cons hS (by (repeat constructor))).cons hS (by (repeat constructor))) | exact Sx.le (by assumption) ((hS.sx0.cons hS (by (repeat constructor))).cons hS (by (repeat constructor)))) (fun hHeld => ?_)
        clear hK K
        try simp only [Act.put, nz1, nz2, nz3]
        refine wpAnyH_ready (rs := [10]) (by kernel_rfl) (by simp) ?_
        refine consL 10 rfl (fun K hK => ?_) AllReadyH.nil
        first | (refine ifYes ?_ ?_; (focus rfl); go_simp; refine (letInt (rcheck16_c _ _ hS.inw _ _ (by first | exact A0.out | exact A1.out | exact R40.out | exact R47.out | exact R67.out | exact R73.out | exact dkL_dry A0.out | exact dkL_dry A1.out | exact Lay.nil_rd _ _) _ (by first | exact I0.out | exact I1.out | exact I2.out | exact inK64 (by omega) (by omega) | assumption))).mono ?_; rintro e' w144 ⟨_, m144, rfl, ⟨E144, HE144, rfl⟩, hk⟩; replace hS := hS.call hk; (try replace A0 := Lib.hid (Lay.mono _ hk.le A0.out)); (try replace A1 := Lib.hid (Lay.mono _ hk.le A1.out)); (try replace R40 := Lib.hid (Lay.mono _ hk.le R40.out)); (try replace R47 := Lib.hid (Lay.mono _ hk.le R47.out)); (try replace R67 := Lib.hid (Lay.mono _ hk.le R67.out)); (try replace R73 := Lib.hid (Lay.mono _ hk.le R73.out)); (try replace HC := Lib.hid (CellsOf.mono hk.le HC.out)); replace hle := hle.trans hk.le; clear hk; obtain rfl : E144 = E141 := HE144.out.trans HE141.out.symm; go_wp2_with fail) | (refine ifNo ?_ ?_; focus (first | exact Bool.false_ne_true | (go_simp <;> fail)))
        refine hK.out _ _ (by first | exact ((hS.sx0.cons hS (by (repeat constructor))).cons hS (by (repeat constructor))) | exact Sx.le (by assumption) ((hS.sx0.cons hS (by (repeat constructor))).cons hS (by (repeat constructor)))) (fun hHeld => ?_)
        clear hK K
        try simp only [Act.put, nz1, nz2, nz3]
        first | (focus (refine takeG 11 (v := ?_) rfl (by kernel_rfl) ?_ ?_ ?_; rotate_left; (focus (first | rfl | (go_simp <;> fail))); (focus (intro w hSw; clear hSw; go_simp; try with_reducible rfl)))) | (refine skipG 11 rfl (by kernel_rfl) ?_ ?_; (focus (first | rfl | (go_simp <;> fail))))
        try simp only [Act.put, nz1, nz2, nz3]
        focus (refine takeN 12 (v := ?_) rfl (by kernel_rfl) ?_ ?_; rotate_left; focus (intro w hSw; clear hSw; go_simp; try with_reducible rfl))
        try simp only [Act.put, nz1, nz2, nz3]
        focus (refine takeN 13 (v := ?_) rfl (by kernel_rfl) ?_ ?_; rotate_left; focus (intro w hSw; clear hSw; go_simp; try with_reducible rfl))
        try simp only [Act.put, nz1, nz2, nz3]
        first | (focus (refine' takeG 14 rfl (by kernel_rfl) ?_ ?_ ?_; rotate_left; (focus (first | rfl | (go_simp <;> fail))); (focus (intro w hSw; refine' yield_loads rfl rowT30 rfl ?_ w hSw; (first | (apply FindsX.box; (· (repeat constructor)); (· (repeat constructor)); done) | (refine FindsX.mem (by assumption) ?_; first | rfl | assumption | (simp; done))))))) | (refine skipG 14 rfl (by kernel_rfl) ?_ ?_; (focus (first | rfl | (go_simp <;> fail))))
        try simp only [Act.put, nz1, nz2, nz3]
        first | (focus (refine' takeG 15 rfl (by kernel_rfl) ?_ ?_ ?_; rotate_left; (focus (first | rfl | (go_simp <;> fail))); (focus (intro w hSw; refine' yield_loads rfl rowT30 rfl ?_ w hSw; (first | (apply FindsX.box; (· (repeat constructor)); (· (repeat constructor)); done) | (refine FindsX.mem (by assumption) ?_; first | rfl | assumption | (simp; done))))))) | (refine skipG 15 rfl (by kernel_rfl) ?_ ?_; (focus (first | rfl | (go_simp <;> fail))))
        try simp only [Act.put, nz1, nz2, nz3]
        first | (focus (refine' takeG 17 rfl (by kernel_rfl) ?_ ?_ ?_; rotate_left; (focus (first | rfl | (go_simp <;> fail))); (focus (intro w hSw; refine' yield_loads rfl rowT30 rfl ?_ w hSw; (first | (apply FindsX.box; (· (repeat constructor)); (· (repeat constructor)); done) | (refine FindsX.mem (by assumption) ?_; first | rfl | assumption | (simp; done))))))) | (refine skipG 17 rfl (by kernel_rfl) ?_ ?_; (focus (first | rfl | (go_simp <;> fail))))
        try simp only [Act.put, nz1, nz2, nz3]
        first | (focus (refine' takeG 18 rfl (by kernel_rfl) ?_ ?_ ?_; rotate_left; (focus (first | rfl | (go_simp <;> fail))); (focus (intro w hSw; refine' yield_loads rfl rowT30 rfl ?_ w hSw; (first | (apply FindsX.box; (· (repeat constructor)); (· (repeat constructor)); done) | (refine FindsX.mem (by assumption) ?_; first | rfl | assumption | (simp; done))))))) | (refine skipG 18 rfl (by kernel_rfl) ?_ ?_; (focus (first | rfl | (go_simp <;> fail))))
        try simp only [Act.put, nz1, nz2, nz3]
        refine wpAnyH_ready (rs := [16]) (by kernel_rfl) (by simp) ?_
        refine consL 16 rfl (fun K hK => ?_) AllReadyH.nil
        first | (refine ifYes ?_ ?_; (focus rfl); go_simp; refine (letB (less_v _ _ hS.inw _ _ _ _)).mono ?_; rintro e' w150 ⟨_, m150, rfl, ⟨B150, HB150, rfl⟩, hk⟩; replace hS := hS.call hk; (try replace A0 := Lib.hid (Lay.mono _ hk.le A0.out)); (try replace A1 := Lib.hid (Lay.mono _ hk.le A1.out)); (try replace R40 := Lib.hid (Lay.mono _ hk.le R40.out)); (try replace R47 := Lib.hid (Lay.mono _ hk.le R47.out)); (try replace R67 := Lib.hid (Lay.mono _ hk.le R67.out)); (try replace R73 := Lib.hid (Lay.mono _ hk.le R73.out)); (try replace HC := Lib.hid (CellsOf.mono hk.le HC.out)); replace hle := hle.trans hk.le; clear hk; go_wp2_with fail) | (refine ifNo ?_ ?_; focus (first | exact Bool.false_ne_true | (go_simp <;> fail)))
        refine hK.out _ _ (by first | exact ((hS.sx0.cons hS (by (repeat constructor))).cons hS (by (repeat constructor))) | exact Sx.le (by assumption) ((hS.sx0.cons hS (by (repeat constructor))).cons hS (by (repeat constructor)))) (fun hHeld => ?_)
        clear hK K
        try simp only [Act.put, nz1, nz2, nz3]
        refine wpAnyH_ready (rs := [19]) (by kernel_rfl) (by simp) ?_
        refine consL 19 rfl (fun K hK => ?_) AllReadyH.nil
        first | (refine ifYes ?_ ?_; (focus rfl); go_simp; refine (letB (rless_v _ _ hS.inw _ _ _ _)).mono ?_; rintro e' w153 ⟨_, m153, rfl, ⟨B153, HB153, rfl⟩, hk⟩; replace hS := hS.call hk; (try replace A0 := Lib.hid (Lay.mono _ hk.le A0.out)); (try replace A1 := Lib.hid (Lay.mono _ hk.le A1.out)); (try replace R40 := Lib.hid (Lay.mono _ hk.le R40.out)); (try replace R47 := Lib.hid (Lay.mono _ hk.le R47.out)); (try replace R67 := Lib.hid (Lay.mono _ hk.le R67.out)); (try replace R73 := Lib.hid (Lay.mono _ hk.le R73.out)); (try replace HC := Lib.hid (CellsOf.mono hk.le HC.out)); replace hle := hle.trans hk.le; clear hk; obtain rfl : B153 = B150 := HB153.out.trans HB150.out.symm; go_wp2_with fail) | (refine ifNo ?_ ?_; focus (first | exact Bool.false_ne_true | (go_simp <;> fail)))
        refine hK.out _ _ (by first | exact ((hS.sx0.cons hS (by (repeat constructor))).cons hS (by (repeat constructor))) | exact Sx.le (by assumption) ((hS.sx0.cons hS (by (repeat constructor))).cons hS (by (repeat constructor)))) (fun hHeld => ?_)
        clear hK K
        try simp only [Act.put, nz1, nz2, nz3]
        first | (focus (refine takeG 20 (v := ?_) rfl (by kernel_rfl) ?_ ?_ ?_; rotate_left; (focus (first | rfl | (go_simp <;> fail))); (focus (intro w hSw; clear hSw; go_simp; try with_reducible rfl)))) | (refine skipG 20 rfl (by kernel_rfl) ?_ ?_; (focus (first | rfl | (go_simp <;> fail))))
        try simp only [Act.put, nz1, nz2, nz3]
        focus (refine takeN 21 (v := ?_) rfl (by kernel_rfl) ?_ ?_; rotate_left; focus (intro w hSw; clear hSw; go_simp; try with_reducible rfl))
        try simp only [Act.put, nz1, nz2, nz3]
        focus (refine takeN 22 (v := ?_) rfl (by kernel_rfl) ?_ ?_; rotate_left; focus (intro w hSw; clear hSw; go_simp; try with_reducible rfl))
        try simp only [Act.put, nz1, nz2, nz3]
        first | (focus (refine takeG 23 (v := ?_) rfl (by kernel_rfl) ?_ ?_ ?_; rotate_left; (focus (first | rfl | (go_simp <;> fail))); (focus (intro w hSw; clear hSw; go_simp; try with_reducible rfl)))) | (refine skipG 23 rfl (by kernel_rfl) ?_ ?_; (focus (first | rfl | (go_simp <;> fail))))
        try simp only [Act.put, nz1, nz2, nz3]
        first | (focus (refine takeG 24 (v := ?_) rfl (by kernel_rfl) ?_ ?_ ?_; rotate_left; (focus (first | rfl | (go_simp <;> fail))); (focus (intro w hSw; clear hSw; go_simp; try with_reducible rfl)))) | (refine skipG 24 rfl (by kernel_rfl) ?_ ?_; (focus (first | rfl | (go_simp <;> fail))))
        try simp only [Act.put, nz1, nz2, nz3]
        refine wpAnyH_ready (rs := [25]) (by kernel_rfl) (by simp) ?_
        refine consL 25 rfl (fun K hK => ?_) AllReadyH.nil
        first | (refine ifYes ?_ ?_; (focus rfl); go_simp; refine (letB (same16_c _ _ hS.inw _ _ _ _ (by first | exact A0.out | exact A1.out | exact R40.out | exact R47.out | exact R67.out | exact R73.out | exact dkL_dry A0.out | exact dkL_dry A1.out | exact Lay.nil_rd _ _) (by first | exact A0.out | exact A1.out | exact R40.out | exact R47.out | exact R67.out | exact R73.out | exact dkL_dry A0.out | exact dkL_dry A1.out | exact Lay.nil_rd _ _))).mono ?_; rintro e' w159 ⟨_, m159, rfl, ⟨B159, HB159, rfl⟩, hk⟩; replace hS := hS.call hk; (try replace A0 := Lib.hid (Lay.mono _ hk.le A0.out)); (try replace A1 := Lib.hid (Lay.mono _ hk.le A1.out)); (try replace R40 := Lib.hid (Lay.mono _ hk.le R40.out)); (try replace R47 := Lib.hid (Lay.mono _ hk.le R47.out)); (try replace R67 := Lib.hid (Lay.mono _ hk.le R67.out)); (try replace R73 := Lib.hid (Lay.mono _ hk.le R73.out)); (try replace HC := Lib.hid (CellsOf.mono hk.le HC.out)); replace hle := hle.trans hk.le; clear hk; obtain rfl : B159 = true := HB159.out.trans (decide_eq_true rfl); go_wp2_with fail) | (refine ifNo ?_ ?_; focus (first | exact Bool.false_ne_true | (go_simp <;> fail)))
        refine hK.out _ _ (by first | exact ((hS.sx0.cons hS (by (repeat constructor))).cons hS (by (repeat constructor))) | exact Sx.le (by assumption) ((hS.sx0.cons hS (by (repeat constructor))).cons hS (by (repeat constructor)))) (fun hHeld => ?_)
        clear hK K
        try simp only [Act.put, nz1, nz2, nz3]
        focus (refine takeN 26 (v := ?_) rfl (by kernel_rfl) ?_ ?_; rotate_left; focus (intro w hSw; clear hSw; go_simp; try with_reducible rfl))
        try simp only [Act.put, nz1, nz2, nz3]
        focus (refine takeN 27 (v := ?_) rfl (by kernel_rfl) ?_ ?_; rotate_left; focus (intro w hSw; clear hSw; go_simp; try with_reducible rfl))
        try simp only [Act.put, nz1, nz2, nz3]
        refine wpAnyH_done (by kernel_rfl) ?_ _
        refine NoPanic.normal ?_
        all_goals
          go_wp2_with fail
          (first | (go_ret; exact ⟨rfl, hS.below⟩) | (go_ret; refine ⟨?_, hS.below⟩; simp; done))
set_option maxRecDepth 100000 in
set_option maxHeartbeats 8000000 in
theorem walkBestDoes (w : World) (v : Value) (l : List Hit) (hr : hitL.list.rd (World.mem w) [v] l) (K : Int) (hk : (Lit.int .i64 K).wf = true) (vh : Value) (h : Hit) (hh : vh = .agg #[.int .i64 h.dist, .int .i64 h.id] ∧ InK .i64 h.dist ∧ InK .i64 h.id) (vo : Value) (o : Hit) (ho : vo = .agg #[.int .i64 o.dist, .int .i64 o.id] ∧ InK .i64 o.dist ∧ InK .i64 o.id) :
    Calls Try.prog 6 #[v, .int .i64 K, vh, vo] w fun e w' => e = .returned (.bool true) ∧ Below w.heap.size w w' := by
  obtain ⟨rfl, ih1, ih2⟩ := hh
  obtain ⟨rfl, _, _⟩ := ho
  have hS := St.start (World.mem_in w)
  obtain ⟨q, c, rfl, _, _, _, _⟩ := Lay.list_open hr
  have hk' : InK .i64 K := by have h2 := hk; simp [Lit.wf] at h2; exact h2
  by_cases hbig : (300 : Int) < l.length
  · clear hr hk hk'
    go_enter Try.func6, Try.ntmps6
    go_wp2_with (first
    | ((with_reducible refine' Wl.out ?_; apply k_box (ty := 30) (y := (.tmp 2)) hS); (· exact .mk); clear hS; intro w6 b6 hS)
    | ((with_reducible refine' Wl.out ?_; apply k_box (ty := 30) (y := (.tmp 3)) hS); (· exact .mk); clear hS; intro w7 b7 hS)
    | ((with_reducible refine' Wl.out ?_; apply k_alloc (ty := 30) (dst := some 15) hS); (· exact .mk); clear hS; intro w15 b15 hS)
    | ((with_reducible refine' Wl.out ?_; apply k_alloc (ty := 30) (dst := some 18) hS); (· exact .mk); clear hS; intro w18 b18 hS)
    | ((with_reducible refine' Wl.out ?_; apply k_load hS); (· exact .mk))
    | ((with_reducible refine' Wl.out ?_; apply k_loads hS); (· exact .mk))
    | go_skip
    | ((with_reducible refine' Wl.out ?_; apply kg_load hS); iterate 2 (· exact .mk))
    | ((with_reducible refine' Wl.out ?_; apply kg_loads hS); iterate 2 (· exact .mk))
    | ((with_reducible refine' Wl.out ?_; refine' wg_case ?_ ?_) <;> (intro hgW; (try (have hg2 := hgW; simp [go_sem] at hg2)); (first | (exfalso; assumption) | ((with_reducible refine' Wl.out ?_; apply k_no hgW)) | ((with_reducible refine' Wl.out ?_; apply kg_load hS ⟨hgW⟩); (· exact .mk)) | ((with_reducible refine' Wl.out ?_; apply kg_loads hS ⟨hgW⟩); (· exact .mk))); clear hgW))
    | ((with_reducible refine' Wl.out ?_; apply k_store hS); (· exact .mk); clear hS; intro ws hS)
    | ((with_reducible refine' Wl.out ?_; apply k_storeR hS); (· exact .mk); clear hS; intro ws hS)
    | ((with_reducible refine' Wl.out ?_; apply k_stores hS); (· exact .mk); clear hS; intro ws hS)
    | (go_at_call 11; (fail_if_success (clear Mk27)); refine (live16_c _ _ hS.inw).mono ?_; rintro e' w27 ⟨_, m27, rfl, rfl, hk⟩; replace hS := hS.call hk; (try replace A0 := Lib.hid (Lay.mono _ hk.le A0.out)); (try replace A1 := Lib.hid (Lay.mono _ hk.le A1.out)); (try replace R40 := Lib.hid (Lay.mono _ hk.le R40.out)); (try replace R47 := Lib.hid (Lay.mono _ hk.le R47.out)); (try replace R67 := Lib.hid (Lay.mono _ hk.le R67.out)); (try replace R73 := Lib.hid (Lay.mono _ hk.le R73.out)); (try replace HC := Lib.hid (CellsOf.mono hk.le HC.out)); clear hk; have Mk27 := True.intro))
    (first | (go_ret; exact ⟨rfl, hS.below⟩) | (go_ret; refine ⟨?_, hS.below⟩; simp; done))
  · exact does_walk w q c l hr K hk' h.dist h.id ih1 ih2 o.dist o.id (by omega) _ rfl (addX_is _ _ _)
end Go.Proofs.Ytlkdjmpkapeppaa
