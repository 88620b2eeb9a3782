/- The walk of BestWorst. -/
import Derived.Test.YtlkdjmpkapeppaaG3
namespace Go.Proofs.Ytlkdjmpkapeppaa
set_option linter.unusedVariables false
set_option linter.unusedSimpArgs false
open Go.RowKit Go.Shelf
theorem addX_zero {l : List Hit} {k : Int} {h : Hit} (h0 : addX l k h = 0) : okH l k ∧ fineH h ∧ (∀ x ∈ l, x.id ≠ h.id) ∧ addH l k h = addL l k.toNat h := by
  unfold addX at h0
  split at h0
  · rename_i hh
    split at h0
    · rename_i ht
      refine ⟨hh.1, hh.2, fun x hx => ?_, if_pos ⟨hh.1, hh.2, ht⟩⟩
      have := List.any_eq_false.1 ht x hx
      simpa using this
    · omega
  · omega
theorem far_same {l : List Hit} {k : Int} {h : Hit} (hE : wE l k = 0) (hA : addX l k h = 0) (hB : wB l k = true) (hL : (wH l k).lt h) : chkE (addH l k h) k = 0 ∧ chkE l k = 0 ∧ sortH (addH l k h) k = sortH l k := by
  obtain ⟨o, f, t, e⟩ := addX_zero hA
  obtain ⟨a1, a2, a3⟩ := add_okH o f t
  have h0 : l.length ≠ 0 := fun hl => by unfold wE at hE; rw [if_pos o, if_pos hl] at hE; cases hE
  have hlen : (l.length : Int) = k := by unfold wB at hB; rw [if_pos hE] at hB; simpa using hB
  have htop : (l.getD 0 hz).lt h := by unfold wH at hL; rw [if_pos hE] at hL; exact hL
  rw [e]
  refine ⟨if_pos a1, if_pos o, ?_⟩
  unfold sortH
  rw [if_pos a1, if_pos o, a2]
  exact add_far (by omega) (by omega) o.2.2.2.2.2 htop
theorem wE_top {l : List Hit} {k : Int} (hE : wE l k = 0) : ∀ x ∈ l, ¬ (wH l k).lt x := by
  have o : okH l k := Decidable.byContradiction fun o => by unfold wE at hE; rw [if_neg o] at hE; cases hE
  have h0 : l.length ≠ 0 := fun hl => by unfold wE at hE; rw [if_pos o, if_pos hl] at hE; cases hE
  unfold wH
  rw [if_pos hE]
  exact worst_top (by omega) o.2.2.2.2.2
set_option maxRecDepth 100000 in
set_option maxHeartbeats 8000000 in
theorem walkBestWorst (w : World) (v : Value) (l : List Hit) (hr : hitL.list.rd (World.mem w) [v] l) (K : Int) (hk : (Lit.int .i64 K).wf = true) (vh : Value) (h : Hit) (hh : vh = .agg #[.int .i64 h.dist, .int .i64 h.id] ∧ InK .i64 h.dist ∧ InK .i64 h.id) :
    Calls Try.prog 7 #[v, .int .i64 K, vh] w fun e w' => e = .returned (.bool true) ∧ Below w.heap.size w w' := by
  obtain ⟨rfl, ih1, ih2⟩ := hh
  have hS := St.start (World.mem_in w)
  have A0 := Lib.hid hr
  obtain ⟨q, c, rfl, _, hcm, _, hrow⟩ := Lay.list_open hr
  have I0 := Lib.hid (show InK .i64 K by have h2 := hk; simp [Lit.wf] at h2; exact h2)
  have I1 := Lib.hid ih1
  have I2 := Lib.hid ih2
  have HR := Lib.hid hrow
  have hl : l.length ≤ 9223372036854775807 := by simp only [maxLen] at hcm; omega
  clear hr hk ih1 ih2 hrow
  by_cases hbig : (300 : Int) < l.length
  · clear HR
    go_enter Try.func7, Try.ntmps7
    go_wp2_with (first
    | ((with_reducible refine' Wl.out ?_; apply k_box (ty := 30) (y := (.tmp 2)) hS); (· exact .mk); clear hS; intro w5 b5 hS)
    | ((with_reducible refine' Wl.out ?_; apply k_alloc (ty := 30) (dst := some 8) hS); (· exact .mk); clear hS; intro w8 b8 hS)
    | ((with_reducible refine' Wl.out ?_; apply k_alloc (ty := 30) (dst := some 12) hS); (· exact .mk); clear hS; intro w12 b12 hS)
    | ((with_reducible refine' Wl.out ?_; apply k_loads hS); (· exact .mk))
    | go_skip
    | ((with_reducible refine' Wl.out ?_; apply kg_loads hS); iterate 2 (· exact .mk))
    | ((with_reducible refine' Wl.out ?_; refine' wg_case ?_ ?_) <;> (intro hgW; (try (have hg2 := hgW; simp [go_sem] at hg2)); (first | (exfalso; assumption) | ((with_reducible refine' Wl.out ?_; apply k_no hgW)) | ((with_reducible refine' Wl.out ?_; apply kg_loads hS ⟨hgW⟩); (· exact .mk))); clear hgW))
    | ((with_reducible refine' Wl.out ?_; apply k_stores hS); (· exact .mk); clear hS; intro ws hS)
    | (go_at_call 11; (fail_if_success (clear Mk19)); refine (live16_c _ _ hS.inw).mono ?_; rintro e' w19 ⟨_, m19, rfl, rfl, hk⟩; replace hS := hS.call hk; (try replace A0 := Lib.hid (Lay.mono _ hk.le A0.out)); (try replace R59 := Lib.hid (Lay.mono _ hk.le R59.out)); (try replace R78 := Lib.hid (Lay.mono _ hk.le R78.out)); (try replace R84 := Lib.hid (Lay.mono _ hk.le R84.out)); (try replace HC := Lib.hid (CellsOf.mono hk.le HC.out)); clear hk; have Mk19 := True.intro))
    (first | (go_ret; exact ⟨rfl, hS.below⟩) | (go_ret; refine ⟨?_, hS.below⟩; simp; done))
  by_cases hE : wE l K = 0
  · have HE := Lib.hid hE
    have HT := Lib.hid (wE_top hE)
    have hcase : Hid (addX l K h ≠ 0) ∨ Hid (addX l K h = 0 ∧ wB l K = false) ∨ Hid (addX l K h = 0 ∧ wB l K = true ∧ ¬ (wH l K).lt h) ∨ Hid (addX l K h = 0 ∧ wB l K = true ∧ (wH l K).lt h) := by
      by_cases c1 : addX l K h = 0
      · cases c2 : wB l K
        · exact .inr (.inl ⟨c1, rfl⟩)
        · by_cases c3 : (wH l K).lt h
          · exact .inr (.inr (.inr ⟨c1, rfl, c3⟩))
          · exact .inr (.inr (.inl ⟨c1, rfl, c3⟩))
      · exact .inl c1
    have hne : ¬ (wE l K = 5 ∧ False) := fun h => h.2
    clear hE hne
    rcases hcase with HC | HC | HC | HC
    · go_enter Try.func7, Try.ntmps7
      go_wp2_with (first
    | ((with_reducible refine' Wl.out ?_; apply k_box (ty := 30) (y := (.tmp 2)) hS); (· exact .mk); clear hS; intro w5 b5 hS)
    | ((with_reducible refine' Wl.out ?_; apply k_alloc (ty := 30) (dst := some 8) hS); (· exact .mk); clear hS; intro w8 b8 hS)
    | ((with_reducible refine' Wl.out ?_; apply k_alloc (ty := 30) (dst := some 12) hS); (· exact .mk); clear hS; intro w12 b12 hS)
    | ((with_reducible refine' Wl.out ?_; apply k_loads hS); (· exact .mk))
    | go_skip
    | ((with_reducible refine' Wl.out ?_; apply kg_loads hS); iterate 2 (· exact .mk))
    | ((with_reducible refine' Wl.out ?_; refine' wg_case ?_ ?_) <;> (intro hgW; (try (have hg2 := hgW; simp [go_sem] at hg2)); (first | (exfalso; assumption) | ((with_reducible refine' Wl.out ?_; apply k_no hgW)) | ((with_reducible refine' Wl.out ?_; apply kg_loads hS ⟨hgW⟩); (· exact .mk))); clear hgW))
    | ((with_reducible refine' Wl.out ?_; apply k_stores hS); (· exact .mk); clear hS; intro ws hS)
    | (go_at_call 11; (fail_if_success (clear Mk19)); refine (live16_c _ _ hS.inw).mono ?_; rintro e' w19 ⟨_, m19, rfl, rfl, hk⟩; replace hS := hS.call hk; (try replace A0 := Lib.hid (Lay.mono _ hk.le A0.out)); (try replace R59 := Lib.hid (Lay.mono _ hk.le R59.out)); (try replace R78 := Lib.hid (Lay.mono _ hk.le R78.out)); (try replace R84 := Lib.hid (Lay.mono _ hk.le R84.out)); (try replace HC := Lib.hid (CellsOf.mono hk.le HC.out)); clear hk; have Mk19 := True.intro)
    | (go_at_call 18; (fail_if_success (clear Mk29)); refine (letW (bworst_c _ _ hS.inw _ _ (by first | exact A0.out | exact R59.out | exact R78.out | exact R84.out | exact dkL_dry A0.out | exact Lay.nil_rd _ _) _ (by first | exact I0.out | exact I1.out | exact I2.out | exact inK64 (by omega) (by omega) | assumption))).mono ?_; rintro e' w29 ⟨_, m29, rfl, ⟨W29, B29, E29, HW29, HB29, HE29, rfl⟩, hk⟩; replace hS := hS.call hk; (try replace A0 := Lib.hid (Lay.mono _ hk.le A0.out)); (try replace R59 := Lib.hid (Lay.mono _ hk.le R59.out)); (try replace R78 := Lib.hid (Lay.mono _ hk.le R78.out)); (try replace R84 := Lib.hid (Lay.mono _ hk.le R84.out)); (try replace HC := Lib.hid (CellsOf.mono hk.le HC.out)); clear hk; obtain rfl : E29 = 0 := HE29.out.trans HE.out; have Mk29 := True.intro))
      go_loopw [47] (fun i wr => ∃ k : Nat, k ≤ l.length ∧ i = .int .i64 k ∧ St [] w (World.mem w) wr [.box b8 [.int .i64 W29.dist, .int .i64 W29.id], .box b5 [.int .i64 h.dist, .int .i64 h.id]] m29) (fun i _ => l.length - (intOf i).toNat)
      case atStart => exact ⟨0, Nat.zero_le _, rfl, hS⟩
      case round =>
        clear hS
        obtain ⟨k, hk, rfl, hS⟩ := hrel
        by_cases hlt : k < l.length
        · obtain ⟨bq, oq, cs, rfl, hcs, hcell⟩ := HR.out.get k hlt
          obtain ⟨rfl, _, _⟩ := hitL_open hcs
          have hcx : ∀ j v, [Value.int .i64 l[k].dist, .int .i64 l[k].id][j]? = some v → m29 ⟨bq, oq + k * 2 + j, none⟩ = some v := fun j v hj => hS.le _ _ (hcell j v hj)
          have hLx : Hid (decide ((⟨W29.dist, W29.id⟩ : Hit).lt ⟨l[k].dist, l[k].id⟩) = false) := decide_eq_false (by have := HT.out l[k] (List.getElem_mem hlt); rw [← HW29.out] at this; exact this)
          have hk1 : (k : Int) < l.length := by omega
          clear hcs hcell
          generalize l[k] = x at *
          go_wp2_with (first
    | ((with_reducible refine' Wl.out ?_; apply k_box (ty := 30) (y := (.tmp 2)) hS); (· exact .mk); clear hS; intro w5 b5 hS)
    | ((with_reducible refine' Wl.out ?_; apply k_alloc (ty := 30) (dst := some 8) hS); (· exact .mk); clear hS; intro w8 b8 hS)
    | ((with_reducible refine' Wl.out ?_; apply k_alloc (ty := 30) (dst := some 12) hS); (· exact .mk); clear hS; intro w12 b12 hS)
    | ((with_reducible refine' Wl.out ?_; apply k_loads hS); (· exact .mk))
    | go_skip
    | ((with_reducible refine' Wl.out ?_; apply kg_loads hS); iterate 2 (· exact .mk))
    | ((with_reducible refine' Wl.out ?_; refine' wg_case ?_ ?_) <;> (intro hgW; (try (have hg2 := hgW; simp [go_sem] at hg2)); (first | (exfalso; assumption) | ((with_reducible refine' Wl.out ?_; apply k_no hgW)) | ((with_reducible refine' Wl.out ?_; apply kg_loads hS ⟨hgW⟩); (· exact .mk))); clear hgW))
    | ((with_reducible refine' Wl.out ?_; apply k_stores hS); (· exact .mk); clear hS; intro ws hS)
            | (go_at_call 16; refine (less_v (World.mem _) _ (World.mem_in _) _ _ _ _).mono ?_; rintro e' w53 ⟨_, m53, rfl, hv, hk53⟩; replace hS := hS.grow (grownBy_of_below hk53.below); clear hk53; rw [hLx.out] at hv; subst hv))
          go_roundw
          case rel => exact ⟨k + 1, hlt, by go_num, hS.forget (x := .box b12 _) (by (repeat constructor))⟩
          case measure => simp [intOf]; omega
        · obtain rfl : k = l.length := by omega
          go_wp2_with (first
    | ((with_reducible refine' Wl.out ?_; apply k_box (ty := 30) (y := (.tmp 2)) hS); (· exact .mk); clear hS; intro w5 b5 hS)
    | ((with_reducible refine' Wl.out ?_; apply k_alloc (ty := 30) (dst := some 8) hS); (· exact .mk); clear hS; intro w8 b8 hS)
    | ((with_reducible refine' Wl.out ?_; apply k_alloc (ty := 30) (dst := some 12) hS); (· exact .mk); clear hS; intro w12 b12 hS)
    | ((with_reducible refine' Wl.out ?_; apply k_loads hS); (· exact .mk))
    | go_skip
    | ((with_reducible refine' Wl.out ?_; apply kg_loads hS); iterate 2 (· exact .mk))
    | ((with_reducible refine' Wl.out ?_; refine' wg_case ?_ ?_) <;> (intro hgW; (try (have hg2 := hgW; simp [go_sem] at hg2)); (first | (exfalso; assumption) | ((with_reducible refine' Wl.out ?_; apply k_no hgW)) | ((with_reducible refine' Wl.out ?_; apply kg_loads hS ⟨hgW⟩); (· exact .mk))); clear hgW))
    | ((with_reducible refine' Wl.out ?_; apply k_stores hS); (· exact .mk); clear hS; intro ws hS)
    | (go_at_call 12; (fail_if_success (clear Mk59)); refine (letHE addH_len (badd_v _ _ hS.inw _ _ (by first | exact A0.out | exact R59.out | exact R78.out | exact R84.out | exact dkL_dry A0.out | exact Lay.nil_rd _ _) _ (by first | exact I0.out | exact I1.out | exact I2.out | exact inK64 (by omega) (by omega) | assumption) _ _ (by first | exact I0.out | exact I1.out | exact I2.out | exact inK64 (by omega) (by omega) | assumption) (by first | exact I0.out | exact I1.out | exact I2.out | exact inK64 (by omega) (by omega) | assumption))).mono ?_; rintro e' w59 ⟨_, m59, rfl, ⟨p59, c59, Y59, E59, HY59, HE59, rfl, R59, C59⟩, hk⟩; replace hS := hS.call hk; (try replace A0 := Lib.hid (Lay.mono _ hk.le A0.out)); (try replace R59 := Lib.hid (Lay.mono _ hk.le R59.out)); (try replace R78 := Lib.hid (Lay.mono _ hk.le R78.out)); (try replace R84 := Lib.hid (Lay.mono _ hk.le R84.out)); (try replace HC := Lib.hid (CellsOf.mono hk.le HC.out)); clear hk; have hE59 : (E59 != 0) = true := (by rw [bne_iff_ne]; exact fun e => HC.out (HE59.out.symm.trans e)); have Mk59 := True.intro)
    | (go_at_call 16; (fail_if_success (clear Mk71)); refine (letB (less_v _ _ hS.inw _ _ _ _)).mono ?_; rintro e' w71 ⟨_, m71, rfl, ⟨B71, HB71, rfl⟩, hk⟩; replace hS := hS.call hk; (try replace A0 := Lib.hid (Lay.mono _ hk.le A0.out)); (try replace R59 := Lib.hid (Lay.mono _ hk.le R59.out)); (try replace R78 := Lib.hid (Lay.mono _ hk.le R78.out)); (try replace R84 := Lib.hid (Lay.mono _ hk.le R84.out)); (try replace HC := Lib.hid (CellsOf.mono hk.le HC.out)); clear hk; have Mk71 := True.intro)
    | (go_at_call 14; (fail_if_success (clear Mk78)); refine (letHE sortH_len (bsorted_c _ _ hS.inw _ _ (by first | exact A0.out | exact R59.out | exact R78.out | exact R84.out | exact dkL_dry A0.out | exact Lay.nil_rd _ _) _ (by first | exact I0.out | exact I1.out | exact I2.out | exact inK64 (by omega) (by omega) | assumption))).mono ?_; rintro e' w78 ⟨_, m78, rfl, ⟨p78, c78, Y78, E78, HY78, HE78, rfl, R78, C78⟩, hk⟩; replace hS := hS.call hk; (try replace A0 := Lib.hid (Lay.mono _ hk.le A0.out)); (try replace R59 := Lib.hid (Lay.mono _ hk.le R59.out)); (try replace R78 := Lib.hid (Lay.mono _ hk.le R78.out)); (try replace R84 := Lib.hid (Lay.mono _ hk.le R84.out)); (try replace HC := Lib.hid (CellsOf.mono hk.le HC.out)); clear hk; have Mk78 := True.intro)
    | (go_at_call 14; (fail_if_success (clear Mk84)); refine (letHE sortH_len (bsorted_c _ _ hS.inw _ _ (by first | exact A0.out | exact R59.out | exact R78.out | exact R84.out | exact dkL_dry A0.out | exact Lay.nil_rd _ _) _ (by first | exact I0.out | exact I1.out | exact I2.out | exact inK64 (by omega) (by omega) | assumption))).mono ?_; rintro e' w84 ⟨_, m84, rfl, ⟨p84, c84, Y84, E84, HY84, HE84, rfl, R84, C84⟩, hk⟩; replace hS := hS.call hk; (try replace A0 := Lib.hid (Lay.mono _ hk.le A0.out)); (try replace R59 := Lib.hid (Lay.mono _ hk.le R59.out)); (try replace R78 := Lib.hid (Lay.mono _ hk.le R78.out)); (try replace R84 := Lib.hid (Lay.mono _ hk.le R84.out)); (try replace HC := Lib.hid (CellsOf.mono hk.le HC.out)); clear hk; have Mk84 := True.intro)
    | (go_at_call 15; (fail_if_success (clear Mk99)); refine (letB (same16_c _ _ hS.inw _ _ _ _ (by first | exact A0.out | exact R59.out | exact R78.out | exact R84.out | exact dkL_dry A0.out | exact Lay.nil_rd _ _) (by first | exact A0.out | exact R59.out | exact R78.out | exact R84.out | exact dkL_dry A0.out | exact Lay.nil_rd _ _))).mono ?_; rintro e' w99 ⟨_, m99, rfl, ⟨B99, HB99, rfl⟩, hk⟩; replace hS := hS.call hk; (try replace A0 := Lib.hid (Lay.mono _ hk.le A0.out)); (try replace R59 := Lib.hid (Lay.mono _ hk.le R59.out)); (try replace R78 := Lib.hid (Lay.mono _ hk.le R78.out)); (try replace R84 := Lib.hid (Lay.mono _ hk.le R84.out)); (try replace HC := Lib.hid (CellsOf.mono hk.le HC.out)); clear hk; have Mk99 := True.intro))
          all_goals (first | (go_ret; exact ⟨rfl, hS.below⟩) | (go_ret; refine ⟨?_, hS.below⟩; simp; done))
    · go_enter Try.func7, Try.ntmps7
      go_wp2_with (first
    | ((with_reducible refine' Wl.out ?_; apply k_box (ty := 30) (y := (.tmp 2)) hS); (· exact .mk); clear hS; intro w5 b5 hS)
    | ((with_reducible refine' Wl.out ?_; apply k_alloc (ty := 30) (dst := some 8) hS); (· exact .mk); clear hS; intro w8 b8 hS)
    | ((with_reducible refine' Wl.out ?_; apply k_alloc (ty := 30) (dst := some 12) hS); (· exact .mk); clear hS; intro w12 b12 hS)
    | ((with_reducible refine' Wl.out ?_; apply k_loads hS); (· exact .mk))
    | go_skip
    | ((with_reducible refine' Wl.out ?_; apply kg_loads hS); iterate 2 (· exact .mk))
    | ((with_reducible refine' Wl.out ?_; refine' wg_case ?_ ?_) <;> (intro hgW; (try (have hg2 := hgW; simp [go_sem] at hg2)); (first | (exfalso; assumption) | ((with_reducible refine' Wl.out ?_; apply k_no hgW)) | ((with_reducible refine' Wl.out ?_; apply kg_loads hS ⟨hgW⟩); (· exact .mk))); clear hgW))
    | ((with_reducible refine' Wl.out ?_; apply k_stores hS); (· exact .mk); clear hS; intro ws hS)
    | (go_at_call 11; (fail_if_success (clear Mk19)); refine (live16_c _ _ hS.inw).mono ?_; rintro e' w19 ⟨_, m19, rfl, rfl, hk⟩; replace hS := hS.call hk; (try replace A0 := Lib.hid (Lay.mono _ hk.le A0.out)); (try replace R59 := Lib.hid (Lay.mono _ hk.le R59.out)); (try replace R78 := Lib.hid (Lay.mono _ hk.le R78.out)); (try replace R84 := Lib.hid (Lay.mono _ hk.le R84.out)); (try replace HC := Lib.hid (CellsOf.mono hk.le HC.out)); clear hk; have Mk19 := True.intro)
    | (go_at_call 18; (fail_if_success (clear Mk29)); refine (letW (bworst_c _ _ hS.inw _ _ (by first | exact A0.out | exact R59.out | exact R78.out | exact R84.out | exact dkL_dry A0.out | exact Lay.nil_rd _ _) _ (by first | exact I0.out | exact I1.out | exact I2.out | exact inK64 (by omega) (by omega) | assumption))).mono ?_; rintro e' w29 ⟨_, m29, rfl, ⟨W29, B29, E29, HW29, HB29, HE29, rfl⟩, hk⟩; replace hS := hS.call hk; (try replace A0 := Lib.hid (Lay.mono _ hk.le A0.out)); (try replace R59 := Lib.hid (Lay.mono _ hk.le R59.out)); (try replace R78 := Lib.hid (Lay.mono _ hk.le R78.out)); (try replace R84 := Lib.hid (Lay.mono _ hk.le R84.out)); (try replace HC := Lib.hid (CellsOf.mono hk.le HC.out)); clear hk; obtain rfl : E29 = 0 := HE29.out.trans HE.out; have Mk29 := True.intro))
      obtain rfl : B29 = false := HB29.out.trans HC.out.2
      go_loopw [47] (fun i wr => ∃ k : Nat, k ≤ l.length ∧ i = .int .i64 k ∧ St [] w (World.mem w) wr [.box b8 [.int .i64 W29.dist, .int .i64 W29.id], .box b5 [.int .i64 h.dist, .int .i64 h.id]] m29) (fun i _ => l.length - (intOf i).toNat)
      case atStart => exact ⟨0, Nat.zero_le _, rfl, hS⟩
      case round =>
        clear hS
        obtain ⟨k, hk, rfl, hS⟩ := hrel
        by_cases hlt : k < l.length
        · obtain ⟨bq, oq, cs, rfl, hcs, hcell⟩ := HR.out.get k hlt
          obtain ⟨rfl, _, _⟩ := hitL_open hcs
          have hcx : ∀ j v, [Value.int .i64 l[k].dist, .int .i64 l[k].id][j]? = some v → m29 ⟨bq, oq + k * 2 + j, none⟩ = some v := fun j v hj => hS.le _ _ (hcell j v hj)
          have hLx : Hid (decide ((⟨W29.dist, W29.id⟩ : Hit).lt ⟨l[k].dist, l[k].id⟩) = false) := decide_eq_false (by have := HT.out l[k] (List.getElem_mem hlt); rw [← HW29.out] at this; exact this)
          have hk1 : (k : Int) < l.length := by omega
          clear hcs hcell
          generalize l[k] = x at *
          go_wp2_with (first
    | ((with_reducible refine' Wl.out ?_; apply k_box (ty := 30) (y := (.tmp 2)) hS); (· exact .mk); clear hS; intro w5 b5 hS)
    | ((with_reducible refine' Wl.out ?_; apply k_alloc (ty := 30) (dst := some 8) hS); (· exact .mk); clear hS; intro w8 b8 hS)
    | ((with_reducible refine' Wl.out ?_; apply k_alloc (ty := 30) (dst := some 12) hS); (· exact .mk); clear hS; intro w12 b12 hS)
    | ((with_reducible refine' Wl.out ?_; apply k_loads hS); (· exact .mk))
    | go_skip
    | ((with_reducible refine' Wl.out ?_; apply kg_loads hS); iterate 2 (· exact .mk))
    | ((with_reducible refine' Wl.out ?_; refine' wg_case ?_ ?_) <;> (intro hgW; (try (have hg2 := hgW; simp [go_sem] at hg2)); (first | (exfalso; assumption) | ((with_reducible refine' Wl.out ?_; apply k_no hgW)) | ((with_reducible refine' Wl.out ?_; apply kg_loads hS ⟨hgW⟩); (· exact .mk))); clear hgW))
    | ((with_reducible refine' Wl.out ?_; apply k_stores hS); (· exact .mk); clear hS; intro ws hS)
            | (go_at_call 16; refine (less_v (World.mem _) _ (World.mem_in _) _ _ _ _).mono ?_; rintro e' w53 ⟨_, m53, rfl, hv, hk53⟩; replace hS := hS.grow (grownBy_of_below hk53.below); clear hk53; rw [hLx.out] at hv; subst hv))
          go_roundw
          case rel => exact ⟨k + 1, hlt, by go_num, hS.forget (x := .box b12 _) (by (repeat constructor))⟩
          case measure => simp [intOf]; omega
        · obtain rfl : k = l.length := by omega
          go_wp2_with (first
    | ((with_reducible refine' Wl.out ?_; apply k_box (ty := 30) (y := (.tmp 2)) hS); (· exact .mk); clear hS; intro w5 b5 hS)
    | ((with_reducible refine' Wl.out ?_; apply k_alloc (ty := 30) (dst := some 8) hS); (· exact .mk); clear hS; intro w8 b8 hS)
    | ((with_reducible refine' Wl.out ?_; apply k_alloc (ty := 30) (dst := some 12) hS); (· exact .mk); clear hS; intro w12 b12 hS)
    | ((with_reducible refine' Wl.out ?_; apply k_loads hS); (· exact .mk))
    | go_skip
    | ((with_reducible refine' Wl.out ?_; apply kg_loads hS); iterate 2 (· exact .mk))
    | ((with_reducible refine' Wl.out ?_; refine' wg_case ?_ ?_) <;> (intro hgW; (try (have hg2 := hgW; simp [go_sem] at hg2)); (first | (exfalso; assumption) | ((with_reducible refine' Wl.out ?_; apply k_no hgW)) | ((with_reducible refine' Wl.out ?_; apply kg_loads hS ⟨hgW⟩); (· exact .mk))); clear hgW))
    | ((with_reducible refine' Wl.out ?_; apply k_stores hS); (· exact .mk); clear hS; intro ws hS)
    | (go_at_call 12; (fail_if_success (clear Mk59)); refine (letHE addH_len (badd_v _ _ hS.inw _ _ (by first | exact A0.out | exact R59.out | exact R78.out | exact R84.out | exact dkL_dry A0.out | exact Lay.nil_rd _ _) _ (by first | exact I0.out | exact I1.out | exact I2.out | exact inK64 (by omega) (by omega) | assumption) _ _ (by first | exact I0.out | exact I1.out | exact I2.out | exact inK64 (by omega) (by omega) | assumption) (by first | exact I0.out | exact I1.out | exact I2.out | exact inK64 (by omega) (by omega) | assumption))).mono ?_; rintro e' w59 ⟨_, m59, rfl, ⟨p59, c59, Y59, E59, HY59, HE59, rfl, R59, C59⟩, hk⟩; replace hS := hS.call hk; (try replace A0 := Lib.hid (Lay.mono _ hk.le A0.out)); (try replace R59 := Lib.hid (Lay.mono _ hk.le R59.out)); (try replace R78 := Lib.hid (Lay.mono _ hk.le R78.out)); (try replace R84 := Lib.hid (Lay.mono _ hk.le R84.out)); (try replace HC := Lib.hid (CellsOf.mono hk.le HC.out)); clear hk; obtain rfl : E59 = 0 := HE59.out.trans HC.out.1; have Mk59 := True.intro)
    | (go_at_call 16; (fail_if_success (clear Mk71)); refine (letB (less_v _ _ hS.inw _ _ _ _)).mono ?_; rintro e' w71 ⟨_, m71, rfl, ⟨B71, HB71, rfl⟩, hk⟩; replace hS := hS.call hk; (try replace A0 := Lib.hid (Lay.mono _ hk.le A0.out)); (try replace R59 := Lib.hid (Lay.mono _ hk.le R59.out)); (try replace R78 := Lib.hid (Lay.mono _ hk.le R78.out)); (try replace R84 := Lib.hid (Lay.mono _ hk.le R84.out)); (try replace HC := Lib.hid (CellsOf.mono hk.le HC.out)); clear hk; have Mk71 := True.intro)
    | (go_at_call 14; (fail_if_success (clear Mk78)); refine (letHE sortH_len (bsorted_c _ _ hS.inw _ _ (by first | exact A0.out | exact R59.out | exact R78.out | exact R84.out | exact dkL_dry A0.out | exact Lay.nil_rd _ _) _ (by first | exact I0.out | exact I1.out | exact I2.out | exact inK64 (by omega) (by omega) | assumption))).mono ?_; rintro e' w78 ⟨_, m78, rfl, ⟨p78, c78, Y78, E78, HY78, HE78, rfl, R78, C78⟩, hk⟩; replace hS := hS.call hk; (try replace A0 := Lib.hid (Lay.mono _ hk.le A0.out)); (try replace R59 := Lib.hid (Lay.mono _ hk.le R59.out)); (try replace R78 := Lib.hid (Lay.mono _ hk.le R78.out)); (try replace R84 := Lib.hid (Lay.mono _ hk.le R84.out)); (try replace HC := Lib.hid (CellsOf.mono hk.le HC.out)); clear hk; have Mk78 := True.intro)
    | (go_at_call 14; (fail_if_success (clear Mk84)); refine (letHE sortH_len (bsorted_c _ _ hS.inw _ _ (by first | exact A0.out | exact R59.out | exact R78.out | exact R84.out | exact dkL_dry A0.out | exact Lay.nil_rd _ _) _ (by first | exact I0.out | exact I1.out | exact I2.out | exact inK64 (by omega) (by omega) | assumption))).mono ?_; rintro e' w84 ⟨_, m84, rfl, ⟨p84, c84, Y84, E84, HY84, HE84, rfl, R84, C84⟩, hk⟩; replace hS := hS.call hk; (try replace A0 := Lib.hid (Lay.mono _ hk.le A0.out)); (try replace R59 := Lib.hid (Lay.mono _ hk.le R59.out)); (try replace R78 := Lib.hid (Lay.mono _ hk.le R78.out)); (try replace R84 := Lib.hid (Lay.mono _ hk.le R84.out)); (try replace HC := Lib.hid (CellsOf.mono hk.le HC.out)); clear hk; have Mk84 := True.intro)
    | (go_at_call 15; (fail_if_success (clear Mk99)); refine (letB (same16_c _ _ hS.inw _ _ _ _ (by first | exact A0.out | exact R59.out | exact R78.out | exact R84.out | exact dkL_dry A0.out | exact Lay.nil_rd _ _) (by first | exact A0.out | exact R59.out | exact R78.out | exact R84.out | exact dkL_dry A0.out | exact Lay.nil_rd _ _))).mono ?_; rintro e' w99 ⟨_, m99, rfl, ⟨B99, HB99, rfl⟩, hk⟩; replace hS := hS.call hk; (try replace A0 := Lib.hid (Lay.mono _ hk.le A0.out)); (try replace R59 := Lib.hid (Lay.mono _ hk.le R59.out)); (try replace R78 := Lib.hid (Lay.mono _ hk.le R78.out)); (try replace R84 := Lib.hid (Lay.mono _ hk.le R84.out)); (try replace HC := Lib.hid (CellsOf.mono hk.le HC.out)); clear hk; have Mk99 := True.intro))
          all_goals (first | (go_ret; exact ⟨rfl, hS.below⟩) | (go_ret; refine ⟨?_, hS.below⟩; simp; done))
    · go_enter Try.func7, Try.ntmps7
      go_wp2_with (first
    | ((with_reducible refine' Wl.out ?_; apply k_box (ty := 30) (y := (.tmp 2)) hS); (· exact .mk); clear hS; intro w5 b5 hS)
    | ((with_reducible refine' Wl.out ?_; apply k_alloc (ty := 30) (dst := some 8) hS); (· exact .mk); clear hS; intro w8 b8 hS)
    | ((with_reducible refine' Wl.out ?_; apply k_alloc (ty := 30) (dst := some 12) hS); (· exact .mk); clear hS; intro w12 b12 hS)
    | ((with_reducible refine' Wl.out ?_; apply k_loads hS); (· exact .mk))
    | go_skip
    | ((with_reducible refine' Wl.out ?_; apply kg_loads hS); iterate 2 (· exact .mk))
    | ((with_reducible refine' Wl.out ?_; refine' wg_case ?_ ?_) <;> (intro hgW; (try (have hg2 := hgW; simp [go_sem] at hg2)); (first | (exfalso; assumption) | ((with_reducible refine' Wl.out ?_; apply k_no hgW)) | ((with_reducible refine' Wl.out ?_; apply kg_loads hS ⟨hgW⟩); (· exact .mk))); clear hgW))
    | ((with_reducible refine' Wl.out ?_; apply k_stores hS); (· exact .mk); clear hS; intro ws hS)
    | (go_at_call 11; (fail_if_success (clear Mk19)); refine (live16_c _ _ hS.inw).mono ?_; rintro e' w19 ⟨_, m19, rfl, rfl, hk⟩; replace hS := hS.call hk; (try replace A0 := Lib.hid (Lay.mono _ hk.le A0.out)); (try replace R59 := Lib.hid (Lay.mono _ hk.le R59.out)); (try replace R78 := Lib.hid (Lay.mono _ hk.le R78.out)); (try replace R84 := Lib.hid (Lay.mono _ hk.le R84.out)); (try replace HC := Lib.hid (CellsOf.mono hk.le HC.out)); clear hk; have Mk19 := True.intro)
    | (go_at_call 18; (fail_if_success (clear Mk29)); refine (letW (bworst_c _ _ hS.inw _ _ (by first | exact A0.out | exact R59.out | exact R78.out | exact R84.out | exact dkL_dry A0.out | exact Lay.nil_rd _ _) _ (by first | exact I0.out | exact I1.out | exact I2.out | exact inK64 (by omega) (by omega) | assumption))).mono ?_; rintro e' w29 ⟨_, m29, rfl, ⟨W29, B29, E29, HW29, HB29, HE29, rfl⟩, hk⟩; replace hS := hS.call hk; (try replace A0 := Lib.hid (Lay.mono _ hk.le A0.out)); (try replace R59 := Lib.hid (Lay.mono _ hk.le R59.out)); (try replace R78 := Lib.hid (Lay.mono _ hk.le R78.out)); (try replace R84 := Lib.hid (Lay.mono _ hk.le R84.out)); (try replace HC := Lib.hid (CellsOf.mono hk.le HC.out)); clear hk; obtain rfl : E29 = 0 := HE29.out.trans HE.out; have Mk29 := True.intro))
      obtain rfl : B29 = true := HB29.out.trans HC.out.2.1
      go_loopw [47] (fun i wr => ∃ k : Nat, k ≤ l.length ∧ i = .int .i64 k ∧ St [] w (World.mem w) wr [.box b8 [.int .i64 W29.dist, .int .i64 W29.id], .box b5 [.int .i64 h.dist, .int .i64 h.id]] m29) (fun i _ => l.length - (intOf i).toNat)
      case atStart => exact ⟨0, Nat.zero_le _, rfl, hS⟩
      case round =>
        clear hS
        obtain ⟨k, hk, rfl, hS⟩ := hrel
        by_cases hlt : k < l.length
        · obtain ⟨bq, oq, cs, rfl, hcs, hcell⟩ := HR.out.get k hlt
          obtain ⟨rfl, _, _⟩ := hitL_open hcs
          have hcx : ∀ j v, [Value.int .i64 l[k].dist, .int .i64 l[k].id][j]? = some v → m29 ⟨bq, oq + k * 2 + j, none⟩ = some v := fun j v hj => hS.le _ _ (hcell j v hj)
          have hLx : Hid (decide ((⟨W29.dist, W29.id⟩ : Hit).lt ⟨l[k].dist, l[k].id⟩) = false) := decide_eq_false (by have := HT.out l[k] (List.getElem_mem hlt); rw [← HW29.out] at this; exact this)
          have hk1 : (k : Int) < l.length := by omega
          clear hcs hcell
          generalize l[k] = x at *
          go_wp2_with (first
    | ((with_reducible refine' Wl.out ?_; apply k_box (ty := 30) (y := (.tmp 2)) hS); (· exact .mk); clear hS; intro w5 b5 hS)
    | ((with_reducible refine' Wl.out ?_; apply k_alloc (ty := 30) (dst := some 8) hS); (· exact .mk); clear hS; intro w8 b8 hS)
    | ((with_reducible refine' Wl.out ?_; apply k_alloc (ty := 30) (dst := some 12) hS); (· exact .mk); clear hS; intro w12 b12 hS)
    | ((with_reducible refine' Wl.out ?_; apply k_loads hS); (· exact .mk))
    | go_skip
    | ((with_reducible refine' Wl.out ?_; apply kg_loads hS); iterate 2 (· exact .mk))
    | ((with_reducible refine' Wl.out ?_; refine' wg_case ?_ ?_) <;> (intro hgW; (try (have hg2 := hgW; simp [go_sem] at hg2)); (first | (exfalso; assumption) | ((with_reducible refine' Wl.out ?_; apply k_no hgW)) | ((with_reducible refine' Wl.out ?_; apply kg_loads hS ⟨hgW⟩); (· exact .mk))); clear hgW))
    | ((with_reducible refine' Wl.out ?_; apply k_stores hS); (· exact .mk); clear hS; intro ws hS)
            | (go_at_call 16; refine (less_v (World.mem _) _ (World.mem_in _) _ _ _ _).mono ?_; rintro e' w53 ⟨_, m53, rfl, hv, hk53⟩; replace hS := hS.grow (grownBy_of_below hk53.below); clear hk53; rw [hLx.out] at hv; subst hv))
          go_roundw
          case rel => exact ⟨k + 1, hlt, by go_num, hS.forget (x := .box b12 _) (by (repeat constructor))⟩
          case measure => simp [intOf]; omega
        · obtain rfl : k = l.length := by omega
          go_wp2_with (first
    | ((with_reducible refine' Wl.out ?_; apply k_box (ty := 30) (y := (.tmp 2)) hS); (· exact .mk); clear hS; intro w5 b5 hS)
    | ((with_reducible refine' Wl.out ?_; apply k_alloc (ty := 30) (dst := some 8) hS); (· exact .mk); clear hS; intro w8 b8 hS)
    | ((with_reducible refine' Wl.out ?_; apply k_alloc (ty := 30) (dst := some 12) hS); (· exact .mk); clear hS; intro w12 b12 hS)
    | ((with_reducible refine' Wl.out ?_; apply k_loads hS); (· exact .mk))
    | go_skip
    | ((with_reducible refine' Wl.out ?_; apply kg_loads hS); iterate 2 (· exact .mk))
    | ((with_reducible refine' Wl.out ?_; refine' wg_case ?_ ?_) <;> (intro hgW; (try (have hg2 := hgW; simp [go_sem] at hg2)); (first | (exfalso; assumption) | ((with_reducible refine' Wl.out ?_; apply k_no hgW)) | ((with_reducible refine' Wl.out ?_; apply kg_loads hS ⟨hgW⟩); (· exact .mk))); clear hgW))
    | ((with_reducible refine' Wl.out ?_; apply k_stores hS); (· exact .mk); clear hS; intro ws hS)
    | (go_at_call 12; (fail_if_success (clear Mk59)); refine (letHE addH_len (badd_v _ _ hS.inw _ _ (by first | exact A0.out | exact R59.out | exact R78.out | exact R84.out | exact dkL_dry A0.out | exact Lay.nil_rd _ _) _ (by first | exact I0.out | exact I1.out | exact I2.out | exact inK64 (by omega) (by omega) | assumption) _ _ (by first | exact I0.out | exact I1.out | exact I2.out | exact inK64 (by omega) (by omega) | assumption) (by first | exact I0.out | exact I1.out | exact I2.out | exact inK64 (by omega) (by omega) | assumption))).mono ?_; rintro e' w59 ⟨_, m59, rfl, ⟨p59, c59, Y59, E59, HY59, HE59, rfl, R59, C59⟩, hk⟩; replace hS := hS.call hk; (try replace A0 := Lib.hid (Lay.mono _ hk.le A0.out)); (try replace R59 := Lib.hid (Lay.mono _ hk.le R59.out)); (try replace R78 := Lib.hid (Lay.mono _ hk.le R78.out)); (try replace R84 := Lib.hid (Lay.mono _ hk.le R84.out)); (try replace HC := Lib.hid (CellsOf.mono hk.le HC.out)); clear hk; obtain rfl : E59 = 0 := HE59.out.trans HC.out.1; have Mk59 := True.intro)
    | (go_at_call 16; (fail_if_success (clear Mk71)); refine (letB (less_v _ _ hS.inw _ _ _ _)).mono ?_; rintro e' w71 ⟨_, m71, rfl, ⟨B71, HB71, rfl⟩, hk⟩; replace hS := hS.call hk; (try replace A0 := Lib.hid (Lay.mono _ hk.le A0.out)); (try replace R59 := Lib.hid (Lay.mono _ hk.le R59.out)); (try replace R78 := Lib.hid (Lay.mono _ hk.le R78.out)); (try replace R84 := Lib.hid (Lay.mono _ hk.le R84.out)); (try replace HC := Lib.hid (CellsOf.mono hk.le HC.out)); clear hk; obtain rfl : B71 = false := HB71.out.trans (decide_eq_false (by have := HC.out.2.2; rw [← HW29.out] at this; exact this)); have Mk71 := True.intro)
    | (go_at_call 14; (fail_if_success (clear Mk78)); refine (letHE sortH_len (bsorted_c _ _ hS.inw _ _ (by first | exact A0.out | exact R59.out | exact R78.out | exact R84.out | exact dkL_dry A0.out | exact Lay.nil_rd _ _) _ (by first | exact I0.out | exact I1.out | exact I2.out | exact inK64 (by omega) (by omega) | assumption))).mono ?_; rintro e' w78 ⟨_, m78, rfl, ⟨p78, c78, Y78, E78, HY78, HE78, rfl, R78, C78⟩, hk⟩; replace hS := hS.call hk; (try replace A0 := Lib.hid (Lay.mono _ hk.le A0.out)); (try replace R59 := Lib.hid (Lay.mono _ hk.le R59.out)); (try replace R78 := Lib.hid (Lay.mono _ hk.le R78.out)); (try replace R84 := Lib.hid (Lay.mono _ hk.le R84.out)); (try replace HC := Lib.hid (CellsOf.mono hk.le HC.out)); clear hk; have Mk78 := True.intro)
    | (go_at_call 14; (fail_if_success (clear Mk84)); refine (letHE sortH_len (bsorted_c _ _ hS.inw _ _ (by first | exact A0.out | exact R59.out | exact R78.out | exact R84.out | exact dkL_dry A0.out | exact Lay.nil_rd _ _) _ (by first | exact I0.out | exact I1.out | exact I2.out | exact inK64 (by omega) (by omega) | assumption))).mono ?_; rintro e' w84 ⟨_, m84, rfl, ⟨p84, c84, Y84, E84, HY84, HE84, rfl, R84, C84⟩, hk⟩; replace hS := hS.call hk; (try replace A0 := Lib.hid (Lay.mono _ hk.le A0.out)); (try replace R59 := Lib.hid (Lay.mono _ hk.le R59.out)); (try replace R78 := Lib.hid (Lay.mono _ hk.le R78.out)); (try replace R84 := Lib.hid (Lay.mono _ hk.le R84.out)); (try replace HC := Lib.hid (CellsOf.mono hk.le HC.out)); clear hk; have Mk84 := True.intro)
    | (go_at_call 15; (fail_if_success (clear Mk99)); refine (letB (same16_c _ _ hS.inw _ _ _ _ (by first | exact A0.out | exact R59.out | exact R78.out | exact R84.out | exact dkL_dry A0.out | exact Lay.nil_rd _ _) (by first | exact A0.out | exact R59.out | exact R78.out | exact R84.out | exact dkL_dry A0.out | exact Lay.nil_rd _ _))).mono ?_; rintro e' w99 ⟨_, m99, rfl, ⟨B99, HB99, rfl⟩, hk⟩; replace hS := hS.call hk; (try replace A0 := Lib.hid (Lay.mono _ hk.le A0.out)); (try replace R59 := Lib.hid (Lay.mono _ hk.le R59.out)); (try replace R78 := Lib.hid (Lay.mono _ hk.le R78.out)); (try replace R84 := Lib.hid (Lay.mono _ hk.le R84.out)); (try replace HC := Lib.hid (CellsOf.mono hk.le HC.out)); clear hk; have Mk99 := True.intro))
          all_goals (first | (go_ret; exact ⟨rfl, hS.below⟩) | (go_ret; refine ⟨?_, hS.below⟩; simp; done))
    · go_enter Try.func7, Try.ntmps7
      go_wp2_with (first
    | ((with_reducible refine' Wl.out ?_; apply k_box (ty := 30) (y := (.tmp 2)) hS); (· exact .mk); clear hS; intro w5 b5 hS)
    | ((with_reducible refine' Wl.out ?_; apply k_alloc (ty := 30) (dst := some 8) hS); (· exact .mk); clear hS; intro w8 b8 hS)
    | ((with_reducible refine' Wl.out ?_; apply k_alloc (ty := 30) (dst := some 12) hS); (· exact .mk); clear hS; intro w12 b12 hS)
    | ((with_reducible refine' Wl.out ?_; apply k_loads hS); (· exact .mk))
    | go_skip
    | ((with_reducible refine' Wl.out ?_; apply kg_loads hS); iterate 2 (· exact .mk))
    | ((with_reducible refine' Wl.out ?_; refine' wg_case ?_ ?_) <;> (intro hgW; (try (have hg2 := hgW; simp [go_sem] at hg2)); (first | (exfalso; assumption) | ((with_reducible refine' Wl.out ?_; apply k_no hgW)) | ((with_reducible refine' Wl.out ?_; apply kg_loads hS ⟨hgW⟩); (· exact .mk))); clear hgW))
    | ((with_reducible refine' Wl.out ?_; apply k_stores hS); (· exact .mk); clear hS; intro ws hS)
    | (go_at_call 11; (fail_if_success (clear Mk19)); refine (live16_c _ _ hS.inw).mono ?_; rintro e' w19 ⟨_, m19, rfl, rfl, hk⟩; replace hS := hS.call hk; (try replace A0 := Lib.hid (Lay.mono _ hk.le A0.out)); (try replace R59 := Lib.hid (Lay.mono _ hk.le R59.out)); (try replace R78 := Lib.hid (Lay.mono _ hk.le R78.out)); (try replace R84 := Lib.hid (Lay.mono _ hk.le R84.out)); (try replace HC := Lib.hid (CellsOf.mono hk.le HC.out)); clear hk; have Mk19 := True.intro)
    | (go_at_call 18; (fail_if_success (clear Mk29)); refine (letW (bworst_c _ _ hS.inw _ _ (by first | exact A0.out | exact R59.out | exact R78.out | exact R84.out | exact dkL_dry A0.out | exact Lay.nil_rd _ _) _ (by first | exact I0.out | exact I1.out | exact I2.out | exact inK64 (by omega) (by omega) | assumption))).mono ?_; rintro e' w29 ⟨_, m29, rfl, ⟨W29, B29, E29, HW29, HB29, HE29, rfl⟩, hk⟩; replace hS := hS.call hk; (try replace A0 := Lib.hid (Lay.mono _ hk.le A0.out)); (try replace R59 := Lib.hid (Lay.mono _ hk.le R59.out)); (try replace R78 := Lib.hid (Lay.mono _ hk.le R78.out)); (try replace R84 := Lib.hid (Lay.mono _ hk.le R84.out)); (try replace HC := Lib.hid (CellsOf.mono hk.le HC.out)); clear hk; obtain rfl : E29 = 0 := HE29.out.trans HE.out; have Mk29 := True.intro))
      obtain rfl : B29 = true := HB29.out.trans HC.out.2.1
      go_loopw [47] (fun i wr => ∃ k : Nat, k ≤ l.length ∧ i = .int .i64 k ∧ St [] w (World.mem w) wr [.box b8 [.int .i64 W29.dist, .int .i64 W29.id], .box b5 [.int .i64 h.dist, .int .i64 h.id]] m29) (fun i _ => l.length - (intOf i).toNat)
      case atStart => exact ⟨0, Nat.zero_le _, rfl, hS⟩
      case round =>
        clear hS
        obtain ⟨k, hk, rfl, hS⟩ := hrel
        by_cases hlt : k < l.length
        · obtain ⟨bq, oq, cs, rfl, hcs, hcell⟩ := HR.out.get k hlt
          obtain ⟨rfl, _, _⟩ := hitL_open hcs
          have hcx : ∀ j v, [Value.int .i64 l[k].dist, .int .i64 l[k].id][j]? = some v → m29 ⟨bq, oq + k * 2 + j, none⟩ = some v := fun j v hj => hS.le _ _ (hcell j v hj)
          have hLx : Hid (decide ((⟨W29.dist, W29.id⟩ : Hit).lt ⟨l[k].dist, l[k].id⟩) = false) := decide_eq_false (by have := HT.out l[k] (List.getElem_mem hlt); rw [← HW29.out] at this; exact this)
          have hk1 : (k : Int) < l.length := by omega
          clear hcs hcell
          generalize l[k] = x at *
          go_wp2_with (first
    | ((with_reducible refine' Wl.out ?_; apply k_box (ty := 30) (y := (.tmp 2)) hS); (· exact .mk); clear hS; intro w5 b5 hS)
    | ((with_reducible refine' Wl.out ?_; apply k_alloc (ty := 30) (dst := some 8) hS); (· exact .mk); clear hS; intro w8 b8 hS)
    | ((with_reducible refine' Wl.out ?_; apply k_alloc (ty := 30) (dst := some 12) hS); (· exact .mk); clear hS; intro w12 b12 hS)
    | ((with_reducible refine' Wl.out ?_; apply k_loads hS); (· exact .mk))
    | go_skip
    | ((with_reducible refine' Wl.out ?_; apply kg_loads hS); iterate 2 (· exact .mk))
    | ((with_reducible refine' Wl.out ?_; refine' wg_case ?_ ?_) <;> (intro hgW; (try (have hg2 := hgW; simp [go_sem] at hg2)); (first | (exfalso; assumption) | ((with_reducible refine' Wl.out ?_; apply k_no hgW)) | ((with_reducible refine' Wl.out ?_; apply kg_loads hS ⟨hgW⟩); (· exact .mk))); clear hgW))
    | ((with_reducible refine' Wl.out ?_; apply k_stores hS); (· exact .mk); clear hS; intro ws hS)
            | (go_at_call 16; refine (less_v (World.mem _) _ (World.mem_in _) _ _ _ _).mono ?_; rintro e' w53 ⟨_, m53, rfl, hv, hk53⟩; replace hS := hS.grow (grownBy_of_below hk53.below); clear hk53; rw [hLx.out] at hv; subst hv))
          go_roundw
          case rel => exact ⟨k + 1, hlt, by go_num, hS.forget (x := .box b12 _) (by (repeat constructor))⟩
          case measure => simp [intOf]; omega
        · obtain rfl : k = l.length := by omega
          go_wp2_with (first
    | ((with_reducible refine' Wl.out ?_; apply k_box (ty := 30) (y := (.tmp 2)) hS); (· exact .mk); clear hS; intro w5 b5 hS)
    | ((with_reducible refine' Wl.out ?_; apply k_alloc (ty := 30) (dst := some 8) hS); (· exact .mk); clear hS; intro w8 b8 hS)
    | ((with_reducible refine' Wl.out ?_; apply k_alloc (ty := 30) (dst := some 12) hS); (· exact .mk); clear hS; intro w12 b12 hS)
    | ((with_reducible refine' Wl.out ?_; apply k_loads hS); (· exact .mk))
    | go_skip
    | ((with_reducible refine' Wl.out ?_; apply kg_loads hS); iterate 2 (· exact .mk))
    | ((with_reducible refine' Wl.out ?_; refine' wg_case ?_ ?_) <;> (intro hgW; (try (have hg2 := hgW; simp [go_sem] at hg2)); (first | (exfalso; assumption) | ((with_reducible refine' Wl.out ?_; apply k_no hgW)) | ((with_reducible refine' Wl.out ?_; apply kg_loads hS ⟨hgW⟩); (· exact .mk))); clear hgW))
    | ((with_reducible refine' Wl.out ?_; apply k_stores hS); (· exact .mk); clear hS; intro ws hS)
    | (go_at_call 12; (fail_if_success (clear Mk59)); refine (letHE addH_len (badd_v _ _ hS.inw _ _ (by first | exact A0.out | exact R59.out | exact R78.out | exact R84.out | exact dkL_dry A0.out | exact Lay.nil_rd _ _) _ (by first | exact I0.out | exact I1.out | exact I2.out | exact inK64 (by omega) (by omega) | assumption) _ _ (by first | exact I0.out | exact I1.out | exact I2.out | exact inK64 (by omega) (by omega) | assumption) (by first | exact I0.out | exact I1.out | exact I2.out | exact inK64 (by omega) (by omega) | assumption))).mono ?_; rintro e' w59 ⟨_, m59, rfl, ⟨p59, c59, Y59, E59, HY59, HE59, rfl, R59, C59⟩, hk⟩; replace hS := hS.call hk; (try replace A0 := Lib.hid (Lay.mono _ hk.le A0.out)); (try replace R59 := Lib.hid (Lay.mono _ hk.le R59.out)); (try replace R78 := Lib.hid (Lay.mono _ hk.le R78.out)); (try replace R84 := Lib.hid (Lay.mono _ hk.le R84.out)); (try replace HC := Lib.hid (CellsOf.mono hk.le HC.out)); clear hk; obtain rfl : E59 = 0 := HE59.out.trans HC.out.1; have Mk59 := True.intro)
    | (go_at_call 16; (fail_if_success (clear Mk71)); refine (letB (less_v _ _ hS.inw _ _ _ _)).mono ?_; rintro e' w71 ⟨_, m71, rfl, ⟨B71, HB71, rfl⟩, hk⟩; replace hS := hS.call hk; (try replace A0 := Lib.hid (Lay.mono _ hk.le A0.out)); (try replace R59 := Lib.hid (Lay.mono _ hk.le R59.out)); (try replace R78 := Lib.hid (Lay.mono _ hk.le R78.out)); (try replace R84 := Lib.hid (Lay.mono _ hk.le R84.out)); (try replace HC := Lib.hid (CellsOf.mono hk.le HC.out)); clear hk; obtain rfl : B71 = true := HB71.out.trans (decide_eq_true (by have := HC.out.2.2; rw [← HW29.out] at this; exact this)); have Mk71 := True.intro)
    | (go_at_call 14; (fail_if_success (clear Mk78)); refine (letHE sortH_len (bsorted_c _ _ hS.inw _ _ (by first | exact A0.out | exact R59.out | exact R78.out | exact R84.out | exact dkL_dry A0.out | exact Lay.nil_rd _ _) _ (by first | exact I0.out | exact I1.out | exact I2.out | exact inK64 (by omega) (by omega) | assumption))).mono ?_; rintro e' w78 ⟨_, m78, rfl, ⟨p78, c78, Y78, E78, HY78, HE78, rfl, R78, C78⟩, hk⟩; replace hS := hS.call hk; (try replace A0 := Lib.hid (Lay.mono _ hk.le A0.out)); (try replace R59 := Lib.hid (Lay.mono _ hk.le R59.out)); (try replace R78 := Lib.hid (Lay.mono _ hk.le R78.out)); (try replace R84 := Lib.hid (Lay.mono _ hk.le R84.out)); (try replace HC := Lib.hid (CellsOf.mono hk.le HC.out)); clear hk; obtain rfl : E78 = 0 := HE78.out.trans (by rw [HY59.out]; exact (far_same HE.out HC.out.1 HC.out.2.1 HC.out.2.2).1); have Mk78 := True.intro)
    | (go_at_call 14; (fail_if_success (clear Mk84)); refine (letHE sortH_len (bsorted_c _ _ hS.inw _ _ (by first | exact A0.out | exact R59.out | exact R78.out | exact R84.out | exact dkL_dry A0.out | exact Lay.nil_rd _ _) _ (by first | exact I0.out | exact I1.out | exact I2.out | exact inK64 (by omega) (by omega) | assumption))).mono ?_; rintro e' w84 ⟨_, m84, rfl, ⟨p84, c84, Y84, E84, HY84, HE84, rfl, R84, C84⟩, hk⟩; replace hS := hS.call hk; (try replace A0 := Lib.hid (Lay.mono _ hk.le A0.out)); (try replace R59 := Lib.hid (Lay.mono _ hk.le R59.out)); (try replace R78 := Lib.hid (Lay.mono _ hk.le R78.out)); (try replace R84 := Lib.hid (Lay.mono _ hk.le R84.out)); (try replace HC := Lib.hid (CellsOf.mono hk.le HC.out)); clear hk; obtain rfl : E84 = 0 := HE84.out.trans (far_same HE.out HC.out.1 HC.out.2.1 HC.out.2.2).2.1; have Mk84 := True.intro)
    | (go_at_call 15; (fail_if_success (clear Mk99)); refine (letB (same16_c _ _ hS.inw _ _ _ _ (by first | exact A0.out | exact R59.out | exact R78.out | exact R84.out | exact dkL_dry A0.out | exact Lay.nil_rd _ _) (by first | exact A0.out | exact R59.out | exact R78.out | exact R84.out | exact dkL_dry A0.out | exact Lay.nil_rd _ _))).mono ?_; rintro e' w99 ⟨_, m99, rfl, ⟨B99, HB99, rfl⟩, hk⟩; replace hS := hS.call hk; (try replace A0 := Lib.hid (Lay.mono _ hk.le A0.out)); (try replace R59 := Lib.hid (Lay.mono _ hk.le R59.out)); (try replace R78 := Lib.hid (Lay.mono _ hk.le R78.out)); (try replace R84 := Lib.hid (Lay.mono _ hk.le R84.out)); (try replace HC := Lib.hid (CellsOf.mono hk.le HC.out)); clear hk; obtain rfl : B99 = true := HB99.out.trans (decide_eq_true (by rw [HY78.out, HY84.out, HY59.out]; exact (far_same HE.out HC.out.1 HC.out.2.1 HC.out.2.2).2.2)); have Mk99 := True.intro))
          all_goals (first | (go_ret; exact ⟨rfl, hS.below⟩) | (go_ret; refine ⟨?_, hS.below⟩; simp; done))
  · have hE2 : Hid (wE l K = 1) ∨ l = [] := by
      unfold wE at hE ⊢
      split
      · rename_i o
        rw [if_pos o] at hE
        split at hE
        · rename_i h0; exact .inr (List.eq_nil_of_length_eq_zero h0)
        · exact absurd rfl hE
      · exact .inl rfl
    clear HR
    rcases hE2 with HE | rfl
    · clear hE
      go_enter Try.func7, Try.ntmps7
      go_wp2_with (first
    | ((with_reducible refine' Wl.out ?_; apply k_box (ty := 30) (y := (.tmp 2)) hS); (· exact .mk); clear hS; intro w5 b5 hS)
    | ((with_reducible refine' Wl.out ?_; apply k_alloc (ty := 30) (dst := some 8) hS); (· exact .mk); clear hS; intro w8 b8 hS)
    | ((with_reducible refine' Wl.out ?_; apply k_alloc (ty := 30) (dst := some 12) hS); (· exact .mk); clear hS; intro w12 b12 hS)
    | ((with_reducible refine' Wl.out ?_; apply k_loads hS); (· exact .mk))
    | go_skip
    | ((with_reducible refine' Wl.out ?_; apply kg_loads hS); iterate 2 (· exact .mk))
    | ((with_reducible refine' Wl.out ?_; refine' wg_case ?_ ?_) <;> (intro hgW; (try (have hg2 := hgW; simp [go_sem] at hg2)); (first | (exfalso; assumption) | ((with_reducible refine' Wl.out ?_; apply k_no hgW)) | ((with_reducible refine' Wl.out ?_; apply kg_loads hS ⟨hgW⟩); (· exact .mk))); clear hgW))
    | ((with_reducible refine' Wl.out ?_; apply k_stores hS); (· exact .mk); clear hS; intro ws hS)
    | (go_at_call 11; (fail_if_success (clear Mk19)); refine (live16_c _ _ hS.inw).mono ?_; rintro e' w19 ⟨_, m19, rfl, rfl, hk⟩; replace hS := hS.call hk; (try replace A0 := Lib.hid (Lay.mono _ hk.le A0.out)); (try replace R59 := Lib.hid (Lay.mono _ hk.le R59.out)); (try replace R78 := Lib.hid (Lay.mono _ hk.le R78.out)); (try replace R84 := Lib.hid (Lay.mono _ hk.le R84.out)); (try replace HC := Lib.hid (CellsOf.mono hk.le HC.out)); clear hk; have Mk19 := True.intro)
    | (go_at_call 18; (fail_if_success (clear Mk29)); refine (letW (bworst_c _ _ hS.inw _ _ (by first | exact A0.out | exact R59.out | exact R78.out | exact R84.out | exact dkL_dry A0.out | exact Lay.nil_rd _ _) _ (by first | exact I0.out | exact I1.out | exact I2.out | exact inK64 (by omega) (by omega) | assumption))).mono ?_; rintro e' w29 ⟨_, m29, rfl, ⟨W29, B29, E29, HW29, HB29, HE29, rfl⟩, hk⟩; replace hS := hS.call hk; (try replace A0 := Lib.hid (Lay.mono _ hk.le A0.out)); (try replace R59 := Lib.hid (Lay.mono _ hk.le R59.out)); (try replace R78 := Lib.hid (Lay.mono _ hk.le R78.out)); (try replace R84 := Lib.hid (Lay.mono _ hk.le R84.out)); (try replace HC := Lib.hid (CellsOf.mono hk.le HC.out)); clear hk; obtain rfl : E29 = 1 := HE29.out.trans HE.out; have Mk29 := True.intro))
      (first | (go_ret; exact ⟨rfl, hS.below⟩) | (go_ret; refine ⟨?_, hS.below⟩; simp; done))
    · have HE : Hid (wE [] K = 5 ∨ wE [] K = 1) := by
        show _ ∨ _
        unfold wE
        split
        · exact .inl rfl
        · exact .inr rfl
      clear hE
      rcases HE.out with h5 | h5
      all_goals
        have HE5 := Lib.hid h5
        clear HE h5
        go_enter Try.func7, Try.ntmps7
        go_wp2_with (first
    | ((with_reducible refine' Wl.out ?_; apply k_box (ty := 30) (y := (.tmp 2)) hS); (· exact .mk); clear hS; intro w5 b5 hS)
    | ((with_reducible refine' Wl.out ?_; apply k_alloc (ty := 30) (dst := some 8) hS); (· exact .mk); clear hS; intro w8 b8 hS)
    | ((with_reducible refine' Wl.out ?_; apply k_alloc (ty := 30) (dst := some 12) hS); (· exact .mk); clear hS; intro w12 b12 hS)
    | ((with_reducible refine' Wl.out ?_; apply k_loads hS); (· exact .mk))
    | go_skip
    | ((with_reducible refine' Wl.out ?_; apply kg_loads hS); iterate 2 (· exact .mk))
    | ((with_reducible refine' Wl.out ?_; refine' wg_case ?_ ?_) <;> (intro hgW; (try (have hg2 := hgW; simp [go_sem] at hg2)); (first | (exfalso; assumption) | ((with_reducible refine' Wl.out ?_; apply k_no hgW)) | ((with_reducible refine' Wl.out ?_; apply kg_loads hS ⟨hgW⟩); (· exact .mk))); clear hgW))
    | ((with_reducible refine' Wl.out ?_; apply k_stores hS); (· exact .mk); clear hS; intro ws hS)
    | (go_at_call 11; (fail_if_success (clear Mk19)); refine (live16_c _ _ hS.inw).mono ?_; rintro e' w19 ⟨_, m19, rfl, rfl, hk⟩; replace hS := hS.call hk; (try replace A0 := Lib.hid (Lay.mono _ hk.le A0.out)); (try replace R59 := Lib.hid (Lay.mono _ hk.le R59.out)); (try replace R78 := Lib.hid (Lay.mono _ hk.le R78.out)); (try replace R84 := Lib.hid (Lay.mono _ hk.le R84.out)); (try replace HC := Lib.hid (CellsOf.mono hk.le HC.out)); clear hk; have Mk19 := True.intro)
    | (go_at_call 18; (fail_if_success (clear Mk29)); refine (letW (bworst_c _ _ hS.inw _ _ (by first | exact A0.out | exact R59.out | exact R78.out | exact R84.out | exact dkL_dry A0.out | exact Lay.nil_rd _ _) _ (by first | exact I0.out | exact I1.out | exact I2.out | exact inK64 (by omega) (by omega) | assumption))).mono ?_; rintro e' w29 ⟨_, m29, rfl, ⟨W29, B29, E29, HW29, HB29, HE29, rfl⟩, hk⟩; replace hS := hS.call hk; (try replace A0 := Lib.hid (Lay.mono _ hk.le A0.out)); (try replace R59 := Lib.hid (Lay.mono _ hk.le R59.out)); (try replace R78 := Lib.hid (Lay.mono _ hk.le R78.out)); (try replace R84 := Lib.hid (Lay.mono _ hk.le R84.out)); (try replace HC := Lib.hid (CellsOf.mono hk.le HC.out)); clear hk; obtain rfl := HE29.out.trans HE5.out; have Mk29 := True.intro))
        (first | (go_ret; exact ⟨rfl, hS.below⟩) | (go_ret; refine ⟨?_, hS.below⟩; simp; done))
end Go.Proofs.Ytlkdjmpkapeppaa
