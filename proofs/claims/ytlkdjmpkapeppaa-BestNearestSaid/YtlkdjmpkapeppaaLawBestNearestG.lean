/- The walk of BestNearest. -/
import Derived.Test.YtlkdjmpkapeppaaBn1G
import Derived.Test.YtlkdjmpkapeppaaMapBG
namespace Go.Proofs.Ytlkdjmpkapeppaa
set_option linter.unusedVariables false
set_option linter.unusedSimpArgs false
open Go.RowKit Go.Shelf
theorem mapTB : MapTB Try.prog 34 2 4 .i64 := ⟨Try.underlying2, Try.underlying34, Try.underlying4, by kernel_rfl⟩
theorem wf_u16 {x : Int} (h : (Lit.int .u16 x).wf = true) : 0 ≤ x ∧ x ≤ 65535 := by
  simp [Lit.wf, IntKind.min, IntKind.max, IntKind.signed, IntKind.bits] at h
  exact h
set_option maxRecDepth 100000 in
set_option maxHeartbeats 8000000 in
theorem walkBestNearest (w : World) (p : Option Addr) (c : Nat) (far : List Int) (hr : Rd .u16 w p far) (hw : ∀ x ∈ far, (Lit.int .u16 x).wf = true) (hc : far.length ≤ c) (hm : c ≤ maxLen) (hy : far.length * 2 ≤ 140737488351232) (K : Int) (hk : (Lit.int .i64 K).wf = true) :
    Calls Try.prog 3 #[.slice p far.length c, .int .i64 K] w fun e w' => e = .returned (.bool true) ∧ Below w.heap.size w w' := by
  have hS := St.start (World.mem_in w)
  have I0 := Lib.hid (show InK .i64 K by have h2 := hk; simp [Lit.wf] at h2; exact h2)
  have HR := Lib.hid hr
  have HW := Lib.hid (fun x hx => wf_u16 (hw x hx))
  clear hr hw hk
  by_cases hbig : (100 : Int) < far.length
  · clear HR HW
    go_enter Try.func3, Try.ntmps3
    go_wp2_with (first
    | ((with_reducible refine' Wl.out ?_; apply k_alloc (ty := 30) (dst := some 21) hS); (· exact .mk); clear hS; intro w21 b21 hS)
    | ((with_reducible refine' Wl.out ?_; apply k_alloc (ty := 30) (dst := some 24) hS); (· exact .mk); clear hS; intro w24 b24 hS)
    | ((with_reducible refine' Wl.out ?_; apply k_load hS); (· exact .mk))
    | ((with_reducible refine' Wl.out ?_; apply k_loads hS); (· exact .mk))
    | go_skip
    | ((with_reducible refine' Wl.out ?_; apply kg_load hS); iterate 2 (· exact .mk))
    | ((with_reducible refine' Wl.out ?_; apply kg_loads hS); iterate 2 (· exact .mk))
    | ((with_reducible refine' Wl.out ?_; refine' wg_case ?_ ?_) <;> (intro hgW; (try (have hg2 := hgW; simp [go_sem] at hg2)); (first | (exfalso; assumption) | ((with_reducible refine' Wl.out ?_; apply k_no hgW)) | ((with_reducible refine' Wl.out ?_; apply kg_load hS ⟨hgW⟩); (· exact .mk)) | ((with_reducible refine' Wl.out ?_; apply kg_loads hS ⟨hgW⟩); (· exact .mk))); clear hgW))
    | ((with_reducible refine' Wl.out ?_; apply k_stores hS); (· exact .mk); clear hS; intro ws hS)
    | (go_at_call 11; (fail_if_success (clear Mk25)); refine (live16_c _ _ hS.inw).mono ?_; rintro e' w25 ⟨_, m25, rfl, rfl, hk⟩; replace hS := hS.call hk; (try replace A1 := Lib.hid (Lay.mono _ hk.le A1.out)); (try replace A2 := Lib.hid (Lay.mono _ hk.le A2.out)); (try replace R54 := Lib.hid (Lay.mono _ hk.le R54.out)); (try replace R72 := Lib.hid (Lay.mono _ hk.le R72.out)); (try replace R102 := Lib.hid (Lay.mono _ hk.le R102.out)); (try replace R108 := Lib.hid (Lay.mono _ hk.le R108.out)); clear hk; have Mk25 := True.intro))
    (first | (go_ret; exact ⟨rfl, hS.below⟩) | (go_ret; refine ⟨?_, hS.below⟩; simp; done))
  by_cases hk1 : K < 1
  · clear HR HW
    go_enter Try.func3, Try.ntmps3
    go_wp2_with (first
    | ((with_reducible refine' Wl.out ?_; apply k_alloc (ty := 30) (dst := some 21) hS); (· exact .mk); clear hS; intro w21 b21 hS)
    | ((with_reducible refine' Wl.out ?_; apply k_alloc (ty := 30) (dst := some 24) hS); (· exact .mk); clear hS; intro w24 b24 hS)
    | ((with_reducible refine' Wl.out ?_; apply k_load hS); (· exact .mk))
    | ((with_reducible refine' Wl.out ?_; apply k_loads hS); (· exact .mk))
    | go_skip
    | ((with_reducible refine' Wl.out ?_; apply kg_load hS); iterate 2 (· exact .mk))
    | ((with_reducible refine' Wl.out ?_; apply kg_loads hS); iterate 2 (· exact .mk))
    | ((with_reducible refine' Wl.out ?_; refine' wg_case ?_ ?_) <;> (intro hgW; (try (have hg2 := hgW; simp [go_sem] at hg2)); (first | (exfalso; assumption) | ((with_reducible refine' Wl.out ?_; apply k_no hgW)) | ((with_reducible refine' Wl.out ?_; apply kg_load hS ⟨hgW⟩); (· exact .mk)) | ((with_reducible refine' Wl.out ?_; apply kg_loads hS ⟨hgW⟩); (· exact .mk))); clear hgW))
    | ((with_reducible refine' Wl.out ?_; apply k_stores hS); (· exact .mk); clear hS; intro ws hS)
    | (go_at_call 11; (fail_if_success (clear Mk25)); refine (live16_c _ _ hS.inw).mono ?_; rintro e' w25 ⟨_, m25, rfl, rfl, hk⟩; replace hS := hS.call hk; (try replace A1 := Lib.hid (Lay.mono _ hk.le A1.out)); (try replace A2 := Lib.hid (Lay.mono _ hk.le A2.out)); (try replace R54 := Lib.hid (Lay.mono _ hk.le R54.out)); (try replace R72 := Lib.hid (Lay.mono _ hk.le R72.out)); (try replace R102 := Lib.hid (Lay.mono _ hk.le R102.out)); (try replace R108 := Lib.hid (Lay.mono _ hk.le R108.out)); clear hk; have Mk25 := True.intro))
    (first | (go_ret; exact ⟨rfl, hS.below⟩) | (go_ret; refine ⟨?_, hS.below⟩; simp; done))
  by_cases hk2 : 256 < K
  · clear HR HW
    go_enter Try.func3, Try.ntmps3
    go_wp2_with (first
    | ((with_reducible refine' Wl.out ?_; apply k_alloc (ty := 30) (dst := some 21) hS); (· exact .mk); clear hS; intro w21 b21 hS)
    | ((with_reducible refine' Wl.out ?_; apply k_alloc (ty := 30) (dst := some 24) hS); (· exact .mk); clear hS; intro w24 b24 hS)
    | ((with_reducible refine' Wl.out ?_; apply k_load hS); (· exact .mk))
    | ((with_reducible refine' Wl.out ?_; apply k_loads hS); (· exact .mk))
    | go_skip
    | ((with_reducible refine' Wl.out ?_; apply kg_load hS); iterate 2 (· exact .mk))
    | ((with_reducible refine' Wl.out ?_; apply kg_loads hS); iterate 2 (· exact .mk))
    | ((with_reducible refine' Wl.out ?_; refine' wg_case ?_ ?_) <;> (intro hgW; (try (have hg2 := hgW; simp [go_sem] at hg2)); (first | (exfalso; assumption) | ((with_reducible refine' Wl.out ?_; apply k_no hgW)) | ((with_reducible refine' Wl.out ?_; apply kg_load hS ⟨hgW⟩); (· exact .mk)) | ((with_reducible refine' Wl.out ?_; apply kg_loads hS ⟨hgW⟩); (· exact .mk))); clear hgW))
    | ((with_reducible refine' Wl.out ?_; apply k_stores hS); (· exact .mk); clear hS; intro ws hS)
    | (go_at_call 11; (fail_if_success (clear Mk25)); refine (live16_c _ _ hS.inw).mono ?_; rintro e' w25 ⟨_, m25, rfl, rfl, hk⟩; replace hS := hS.call hk; (try replace A1 := Lib.hid (Lay.mono _ hk.le A1.out)); (try replace A2 := Lib.hid (Lay.mono _ hk.le A2.out)); (try replace R54 := Lib.hid (Lay.mono _ hk.le R54.out)); (try replace R72 := Lib.hid (Lay.mono _ hk.le R72.out)); (try replace R102 := Lib.hid (Lay.mono _ hk.le R102.out)); (try replace R108 := Lib.hid (Lay.mono _ hk.le R108.out)); clear hk; have Mk25 := True.intro))
    (first | (go_ret; exact ⟨rfl, hS.below⟩) | (go_ret; refine ⟨?_, hS.below⟩; simp; done))
  have hn100 : far.length ≤ 100 := by omega
  go_enter Try.func3, Try.ntmps3
  go_wp2_with (first
    | ((with_reducible refine' Wl.out ?_; apply k_alloc (ty := 30) (dst := some 21) hS); (· exact .mk); clear hS; intro w21 b21 hS)
    | ((with_reducible refine' Wl.out ?_; apply k_alloc (ty := 30) (dst := some 24) hS); (· exact .mk); clear hS; intro w24 b24 hS)
    | ((with_reducible refine' Wl.out ?_; apply k_load hS); (· exact .mk))
    | ((with_reducible refine' Wl.out ?_; apply k_loads hS); (· exact .mk))
    | go_skip
    | ((with_reducible refine' Wl.out ?_; apply kg_load hS); iterate 2 (· exact .mk))
    | ((with_reducible refine' Wl.out ?_; apply kg_loads hS); iterate 2 (· exact .mk))
    | ((with_reducible refine' Wl.out ?_; refine' wg_case ?_ ?_) <;> (intro hgW; (try (have hg2 := hgW; simp [go_sem] at hg2)); (first | (exfalso; assumption) | ((with_reducible refine' Wl.out ?_; apply k_no hgW)) | ((with_reducible refine' Wl.out ?_; apply kg_load hS ⟨hgW⟩); (· exact .mk)) | ((with_reducible refine' Wl.out ?_; apply kg_loads hS ⟨hgW⟩); (· exact .mk))); clear hgW))
    | ((with_reducible refine' Wl.out ?_; apply k_stores hS); (· exact .mk); clear hS; intro ws hS)
    | (go_at_call 11; (fail_if_success (clear Mk25)); refine (live16_c _ _ hS.inw).mono ?_; rintro e' w25 ⟨_, m25, rfl, rfl, hk⟩; replace hS := hS.call hk; (try replace A1 := Lib.hid (Lay.mono _ hk.le A1.out)); (try replace A2 := Lib.hid (Lay.mono _ hk.le A2.out)); (try replace R54 := Lib.hid (Lay.mono _ hk.le R54.out)); (try replace R72 := Lib.hid (Lay.mono _ hk.le R72.out)); (try replace R102 := Lib.hid (Lay.mono _ hk.le R102.out)); (try replace R108 := Lib.hid (Lay.mono _ hk.le R108.out)); clear hk; have Mk25 := True.intro))
  go_loopw [6, 7, 42] (fun v6 v7 i wr => ∃ (i' : Nat) (l back : List Hit) (pl pb : Option Addr) (cl cb : Nat) (m' : Mem), i' ≤ far.length ∧ v6 = .slice pl l.length cl ∧ v7 = .slice pb back.length cb ∧ i = .int .i64 i' ∧ Hid (InvN l (upH far i') K) ∧ Hid (InvN back (dnH far i') K) ∧ Hid (hitL.list.rd m' [.slice pl l.length cl] l) ∧ Hid (hitL.list.rd m' [.slice pb back.length cb] back) ∧ St [] w (World.mem w) wr [] m') (fun _ _ i _ => far.length - (intOf i).toNat)
  case atStart => exact ⟨0, [], [], none, none, 0, 0, _, Nat.zero_le _, rfl, rfl, rfl, InvN.nil (by omega) (by omega), InvN.nil (by omega) (by omega), Lay.nil_rd _ _, Lay.nil_rd _ _, hS⟩
  case round =>
    clear hS
    obtain ⟨i, l, back, pl, pb, cl, cb, m', hi, rfl, rfl, rfl, HI, HJ, A1, A2, hS⟩ := hrel
    by_cases hlt : i < far.length
    · obtain ⟨bq, oq, rfl, hcell⟩ := HR.out (by omega)
      obtain ⟨j, hj⟩ : ∃ j : Nat, j = far.length - 1 - i := ⟨_, rfl⟩
      have hjl : j < far.length := by omega
      have hjz : ((far.length : Int) - 1 - (i : Int)) = (j : Int) := by omega
      have HJJ := Lib.hid hj
      have hx := HW.out (far.getD i 0) (by simp [List.getD, hlt])
      have hyv := HW.out (far.getD j 0) (by simp [List.getD, hjl])
      have c1 := hS.le _ _ (hcell i hlt)
      have C2 := Lib.hid (hcell j hjl)
      have s1 := Lib.hid (HI.out.step (fine_n HW.out hlt hn100) upH_new)
      have s2 := Lib.hid (HJ.out.step (fine_n HW.out (show far.length - 1 - i < far.length by omega) hn100) (dnH_new hlt))
      rw [← upH_succ] at s1
      rw [← dnH_succ, ← hj] at s2
      clear hj
      have s3 := Lib.hid (s1.out.2.2.2)
      rw [upH_len] at s3
      have s4 := Lib.hid (if_pos s1.out.2.1 : chkE (addH l K (Hn far i)) K = 0)
      have e1 : IntKind.i64.wrap (far.getD i 0) = far.getD i 0 := wrap64 (by omega) (by omega)
      have e2 : IntKind.i64.wrap (far.getD j 0) = far.getD j 0 := wrap64 (by omega) (by omega)
      have I1 := Lib.hid (show InK .i64 (far.getD i 0) from inK64 (by omega) (by omega))
      have I2 := Lib.hid (show InK .i64 (far.getD j 0) from inK64 (by omega) (by omega))
      have i1z : (i : Int) < far.length := by omega
      have j1z : (j : Int) < far.length := by omega
      unfold Hn at s1 s2 s3 s4
      clear HI HJ hcell
      generalize far.getD i 0 = x at *
      generalize far.getD j 0 = y at *
      go_wp2_with (first
    | ((with_reducible refine' Wl.out ?_; apply k_alloc (ty := 30) (dst := some 21) hS); (· exact .mk); clear hS; intro w21 b21 hS)
    | ((with_reducible refine' Wl.out ?_; apply k_alloc (ty := 30) (dst := some 24) hS); (· exact .mk); clear hS; intro w24 b24 hS)
    | ((with_reducible refine' Wl.out ?_; apply k_load hS); (· exact .mk))
    | ((with_reducible refine' Wl.out ?_; apply k_loads hS); (· exact .mk))
    | go_skip
    | ((with_reducible refine' Wl.out ?_; apply kg_load hS); iterate 2 (· exact .mk))
    | ((with_reducible refine' Wl.out ?_; apply kg_loads hS); iterate 2 (· exact .mk))
    | ((with_reducible refine' Wl.out ?_; refine' wg_case ?_ ?_) <;> (intro hgW; (try (have hg2 := hgW; simp [go_sem] at hg2)); (first | (exfalso; assumption) | ((with_reducible refine' Wl.out ?_; apply k_no hgW)) | ((with_reducible refine' Wl.out ?_; apply kg_load hS ⟨hgW⟩); (· exact .mk)) | ((with_reducible refine' Wl.out ?_; apply kg_loads hS ⟨hgW⟩); (· exact .mk))); clear hgW))
    | ((with_reducible refine' Wl.out ?_; apply k_stores hS); (· exact .mk); clear hS; intro ws hS)
    | (go_at_call 12; (fail_if_success (clear Mk54)); refine (letHE addH_len (badd_v _ _ hS.inw _ _ (by first | exact A1.out | exact A2.out | exact R54.out | exact R72.out | exact R102.out | exact R108.out | exact dkL_dry A1.out | exact dkL_dry A2.out | exact Lay.nil_rd _ _) _ (by first | exact I0.out | exact I1.out | exact I2.out | exact inK64 (by omega) (by omega) | assumption) _ _ (by first | exact I0.out | exact I1.out | exact I2.out | exact inK64 (by omega) (by omega) | assumption) (by first | exact I0.out | exact I1.out | exact I2.out | exact inK64 (by omega) (by omega) | assumption))).mono ?_; rintro e' w54 ⟨_, m54, rfl, ⟨p54, c54, Y54, E54, HY54, HE54, rfl, R54, C54⟩, hk⟩; replace hS := hS.call hk; (try replace A1 := Lib.hid (Lay.mono _ hk.le A1.out)); (try replace A2 := Lib.hid (Lay.mono _ hk.le A2.out)); (try replace R54 := Lib.hid (Lay.mono _ hk.le R54.out)); (try replace R72 := Lib.hid (Lay.mono _ hk.le R72.out)); (try replace R102 := Lib.hid (Lay.mono _ hk.le R102.out)); (try replace R108 := Lib.hid (Lay.mono _ hk.le R108.out)); clear hk; obtain rfl : E54 = 0 := HE54.out.trans s1.out.1; have c2 := hS.le _ _ C2.out; have Mk54 := True.intro)
    | (go_at_call 12; (fail_if_success (clear Mk72)); refine (letHE addH_len (badd_v _ _ hS.inw _ _ (by first | exact A1.out | exact A2.out | exact R54.out | exact R72.out | exact R102.out | exact R108.out | exact dkL_dry A1.out | exact dkL_dry A2.out | exact Lay.nil_rd _ _) _ (by first | exact I0.out | exact I1.out | exact I2.out | exact inK64 (by omega) (by omega) | assumption) _ _ (by first | exact I0.out | exact I1.out | exact I2.out | exact inK64 (by omega) (by omega) | assumption) (by first | exact I0.out | exact I1.out | exact I2.out | exact inK64 (by omega) (by omega) | assumption))).mono ?_; rintro e' w72 ⟨_, m72, rfl, ⟨p72, c72, Y72, E72, HY72, HE72, rfl, R72, C72⟩, hk⟩; replace hS := hS.call hk; (try replace A1 := Lib.hid (Lay.mono _ hk.le A1.out)); (try replace A2 := Lib.hid (Lay.mono _ hk.le A2.out)); (try replace R54 := Lib.hid (Lay.mono _ hk.le R54.out)); (try replace R72 := Lib.hid (Lay.mono _ hk.le R72.out)); (try replace R102 := Lib.hid (Lay.mono _ hk.le R102.out)); (try replace R108 := Lib.hid (Lay.mono _ hk.le R108.out)); clear hk; obtain rfl : E72 = 0 := HE72.out.trans s2.out.1; have Mk72 := True.intro)
    | (go_at_call 13; (fail_if_success (clear Mk93)); refine (letInt (bcheck_c _ _ hS.inw _ _ (by first | exact A1.out | exact A2.out | exact R54.out | exact R72.out | exact R102.out | exact R108.out | exact dkL_dry A1.out | exact dkL_dry A2.out | exact Lay.nil_rd _ _) _ (by first | exact I0.out | exact I1.out | exact I2.out | exact inK64 (by omega) (by omega) | assumption))).mono ?_; rintro e' w93 ⟨_, m93, rfl, ⟨E93, HE93, rfl⟩, hk⟩; replace hS := hS.call hk; (try replace A1 := Lib.hid (Lay.mono _ hk.le A1.out)); (try replace A2 := Lib.hid (Lay.mono _ hk.le A2.out)); (try replace R54 := Lib.hid (Lay.mono _ hk.le R54.out)); (try replace R72 := Lib.hid (Lay.mono _ hk.le R72.out)); (try replace R102 := Lib.hid (Lay.mono _ hk.le R102.out)); (try replace R108 := Lib.hid (Lay.mono _ hk.le R108.out)); clear hk; obtain rfl : E93 = 0 := HE93.out.trans (by rw [HY54.out]; exact s4.out); have Mk93 := True.intro))
      · go_roundw
        case rel => exact ⟨i + 1, Y54, Y72, p54, p72, c54, c72, _, hlt, rfl, rfl, by go_num, (by rw [HY54.out]; exact s1.out.2), (by rw [HY72.out]; exact s2.out.2), R54, R72, hS⟩
        case measure => simp [intOf]; omega
      · exfalso
        have := s3.out
        rw [← HY54.out] at this
        omega
    · obtain rfl : i = far.length := by omega
      have t1 := Lib.hid HI.out.sorted
      have t2 := Lib.hid HJ.out.sorted
      have t3 := Lib.hid (near_congr (k := K.toNat) (dn_up far))
      clear HI HJ
      go_wp2_with (first
    | ((with_reducible refine' Wl.out ?_; apply k_alloc (ty := 30) (dst := some 21) hS); (· exact .mk); clear hS; intro w21 b21 hS)
    | ((with_reducible refine' Wl.out ?_; apply k_alloc (ty := 30) (dst := some 24) hS); (· exact .mk); clear hS; intro w24 b24 hS)
    | ((with_reducible refine' Wl.out ?_; apply k_load hS); (· exact .mk))
    | ((with_reducible refine' Wl.out ?_; apply k_loads hS); (· exact .mk))
    | go_skip
    | ((with_reducible refine' Wl.out ?_; apply kg_load hS); iterate 2 (· exact .mk))
    | ((with_reducible refine' Wl.out ?_; apply kg_loads hS); iterate 2 (· exact .mk))
    | ((with_reducible refine' Wl.out ?_; refine' wg_case ?_ ?_) <;> (intro hgW; (try (have hg2 := hgW; simp [go_sem] at hg2)); (first | (exfalso; assumption) | ((with_reducible refine' Wl.out ?_; apply k_no hgW)) | ((with_reducible refine' Wl.out ?_; apply kg_load hS ⟨hgW⟩); (· exact .mk)) | ((with_reducible refine' Wl.out ?_; apply kg_loads hS ⟨hgW⟩); (· exact .mk))); clear hgW))
    | ((with_reducible refine' Wl.out ?_; apply k_stores hS); (· exact .mk); clear hS; intro ws hS)
    | (go_at_call 14; (fail_if_success (clear Mk102)); refine (letHE sortH_len (bsorted_c _ _ hS.inw _ _ (by first | exact A1.out | exact A2.out | exact R54.out | exact R72.out | exact R102.out | exact R108.out | exact dkL_dry A1.out | exact dkL_dry A2.out | exact Lay.nil_rd _ _) _ (by first | exact I0.out | exact I1.out | exact I2.out | exact inK64 (by omega) (by omega) | assumption))).mono ?_; rintro e' w102 ⟨_, m102, rfl, ⟨p102, c102, Y102, E102, HY102, HE102, rfl, R102, C102⟩, hk⟩; replace hS := hS.call hk; (try replace A1 := Lib.hid (Lay.mono _ hk.le A1.out)); (try replace A2 := Lib.hid (Lay.mono _ hk.le A2.out)); (try replace R54 := Lib.hid (Lay.mono _ hk.le R54.out)); (try replace R72 := Lib.hid (Lay.mono _ hk.le R72.out)); (try replace R102 := Lib.hid (Lay.mono _ hk.le R102.out)); (try replace R108 := Lib.hid (Lay.mono _ hk.le R108.out)); clear hk; obtain rfl : E102 = 0 := HE102.out.trans t1.out.2; have Mk102 := True.intro)
    | (go_at_call 14; (fail_if_success (clear Mk108)); refine (letHE sortH_len (bsorted_c _ _ hS.inw _ _ (by first | exact A1.out | exact A2.out | exact R54.out | exact R72.out | exact R102.out | exact R108.out | exact dkL_dry A1.out | exact dkL_dry A2.out | exact Lay.nil_rd _ _) _ (by first | exact I0.out | exact I1.out | exact I2.out | exact inK64 (by omega) (by omega) | assumption))).mono ?_; rintro e' w108 ⟨_, m108, rfl, ⟨p108, c108, Y108, E108, HY108, HE108, rfl, R108, C108⟩, hk⟩; replace hS := hS.call hk; (try replace A1 := Lib.hid (Lay.mono _ hk.le A1.out)); (try replace A2 := Lib.hid (Lay.mono _ hk.le A2.out)); (try replace R54 := Lib.hid (Lay.mono _ hk.le R54.out)); (try replace R72 := Lib.hid (Lay.mono _ hk.le R72.out)); (try replace R102 := Lib.hid (Lay.mono _ hk.le R102.out)); (try replace R108 := Lib.hid (Lay.mono _ hk.le R108.out)); clear hk; obtain rfl : E108 = 0 := HE108.out.trans t2.out.2; have Mk108 := True.intro)
    | (go_at_call 15; (fail_if_success (clear Mk120)); refine (letB (same16_c _ _ hS.inw _ _ _ _ (by first | exact A1.out | exact A2.out | exact R54.out | exact R72.out | exact R102.out | exact R108.out | exact dkL_dry A1.out | exact dkL_dry A2.out | exact Lay.nil_rd _ _) (by first | exact A1.out | exact A2.out | exact R54.out | exact R72.out | exact R102.out | exact R108.out | exact dkL_dry A1.out | exact dkL_dry A2.out | exact Lay.nil_rd _ _))).mono ?_; rintro e' w120 ⟨_, m120, rfl, ⟨B120, HB120, rfl⟩, hk⟩; replace hS := hS.call hk; (try replace A1 := Lib.hid (Lay.mono _ hk.le A1.out)); (try replace A2 := Lib.hid (Lay.mono _ hk.le A2.out)); (try replace R54 := Lib.hid (Lay.mono _ hk.le R54.out)); (try replace R72 := Lib.hid (Lay.mono _ hk.le R72.out)); (try replace R102 := Lib.hid (Lay.mono _ hk.le R102.out)); (try replace R108 := Lib.hid (Lay.mono _ hk.le R108.out)); clear hk; obtain rfl : B120 = true := HB120.out.trans (decide_eq_true (by rw [HY102.out, HY108.out, t1.out.1, t2.out.1, t3.out])); have Mk120 := True.intro)
        | ((with_reducible refine' Wl.out ?_; apply wl_makeMapB hS mapTB); clear hS; intro w123 b123 hS))
      have HN := Lib.hid (near_up (far := far) (k := K.toNat) (n := far.length) (HY102.out.trans t1.out.1))
      obtain ⟨q', c', e102, u1, u2, u3, urow⟩ := Lay.list_open R102.out
      cases e102
      have HU := Lib.hid urow
      have hl102 : Y102.length ≤ 9223372036854775807 := by simp only [maxLen] at u2; omega
      clear t1 t2 t3 urow u1 u2 u3 A1 A2 R108 HY102 HY108 HB120 HE102 HE108
      rw [show (fun _ => none : Int → Option Bool) = inF Y102 0 from (inF_zero _).symm] at hS
      go_loopw [126] (fun i wr => ∃ i' : Nat, i' ≤ Y102.length ∧ i = .int .i64 i' ∧ St [] w (World.mem w) wr [.obj b123 (MapB Try.prog 2 4 .i64 i' (inF Y102 i'))] m120) (fun i _ => Y102.length - (intOf i).toNat)
      case atStart => exact ⟨0, Nat.zero_le _, rfl, hS⟩
      case round =>
        clear hS
        obtain ⟨i, hi, rfl, hS⟩ := hrel
        by_cases hlt : i < Y102.length
        · obtain ⟨j, hj, hxj⟩ := HN.out.2.1 i hlt
          obtain ⟨bs, os, cs, e1, hcs, hcell⟩ := HU.out.get i hlt
          cases e1
          obtain ⟨rfl, _, _⟩ := hitL_open hcs
          have hgi : Y102[i] = Hn far j := by rw [← hxj]; simp [List.getD, hlt]
          obtain ⟨bq, oq, rfl, hcellq⟩ := HR.out (by omega)
          have hx := HW.out (far.getD j 0) (by simp [List.getD, hj])
          have cq := hS.le _ _ (hcellq j hj)
          have ij := Lib.hid (show InK .i64 (j : Int) from inK64 (by omega) (by omega))
          have hfun := Lib.hid (inF_succ hlt (show Y102[i].id = (j : Int) by rw [hgi]; rfl))
          have e1 : IntKind.i64.wrap (far.getD j 0) = far.getD j 0 := wrap64 (by omega) (by omega)
          have hj1 : (j : Int) < far.length := by omega
          have hi1 : (i : Int) < Y102.length := by omega
          have hsz : i < maxLen := by simp only [maxLen]; omega
          rw [hgi] at hcell
          have hcx : ∀ k v, [Value.int .i64 (far.getD j 0), .int .i64 (j : Nat)][k]? = some v → m120 ⟨bs, os + i * 2 + k, none⟩ = some v := hcell
          clear hcs hcell hcellq
          rcases Nat.eq_zero_or_pos i with h0 | h0
          · subst h0
            obtain ⟨p, hp⟩ : ∃ p : Nat, p = 0 := ⟨_, rfl⟩
            clear hgi hxj hp p
            generalize far.getD j 0 = x at *
            go_wp2_with (first
    | ((with_reducible refine' Wl.out ?_; apply k_alloc (ty := 30) (dst := some 21) hS); (· exact .mk); clear hS; intro w21 b21 hS)
    | ((with_reducible refine' Wl.out ?_; apply k_alloc (ty := 30) (dst := some 24) hS); (· exact .mk); clear hS; intro w24 b24 hS)
    | ((with_reducible refine' Wl.out ?_; apply k_load hS); (· exact .mk))
    | ((with_reducible refine' Wl.out ?_; apply k_loads hS); (· exact .mk))
    | go_skip
    | ((with_reducible refine' Wl.out ?_; apply kg_load hS); iterate 2 (· exact .mk))
    | ((with_reducible refine' Wl.out ?_; apply kg_loads hS); iterate 2 (· exact .mk))
    | ((with_reducible refine' Wl.out ?_; refine' wg_case ?_ ?_) <;> (intro hgW; (try (have hg2 := hgW; simp [go_sem] at hg2)); (first | (exfalso; assumption) | ((with_reducible refine' Wl.out ?_; apply k_no hgW)) | ((with_reducible refine' Wl.out ?_; apply kg_load hS ⟨hgW⟩); (· exact .mk)) | ((with_reducible refine' Wl.out ?_; apply kg_loads hS ⟨hgW⟩); (· exact .mk))); clear hgW))
    | ((with_reducible refine' Wl.out ?_; apply k_stores hS); (· exact .mk); clear hS; intro ws hS)
              | ((with_reducible refine' Wl.out ?_; apply wl_mapUpdateB (c := true) hS mapTB); (· exact rfl); (· exact rfl); (· exact ij.out); (· exact rfl); (· exact hsz); (· exact hfun.out); (· repeat constructor); clear hS; intro w133 hS))
            replace hS := hS.drew
            refine startL (S := Sx _ [(b21, _)]) (by kernel_rfl) (hS.sx0.cons hS (by (repeat constructor))) (fun _ _ _ _ => trivial) (fun hHeld => ?_)
            focus (refine takeN 0 (v := ?_) rfl (by kernel_rfl) ?_ ?_; rotate_left; focus (intro w hSw; clear hSw; go_simp; try with_reducible rfl))
            try simp only [Act.put, nz1, nz2, nz3]
            focus (refine takeN 1 (v := ?_) rfl (by kernel_rfl) ?_ ?_; rotate_left; focus (intro w hSw; clear hSw; go_simp; try with_reducible rfl))
            try simp only [Act.put, nz1, nz2, nz3]
            focus (refine takeN 2 (v := ?_) rfl (by kernel_rfl) ?_ ?_; rotate_left; focus (intro w hSw; clear hSw; go_simp; try with_reducible rfl))
            try simp only [Act.put, nz1, nz2, nz3]
            first | (focus (refine takeG 3 (v := ?_) rfl (by kernel_rfl) ?_ ?_ ?_; rotate_left; (focus (first | rfl | (go_simp <;> fail))); (focus (intro w hSw; clear hSw; go_simp; try with_reducible rfl)))) | (refine skipG 3 rfl (by kernel_rfl) ?_ ?_; (focus (first | rfl | (go_simp <;> fail))))
            try simp only [Act.put, nz1, nz2, nz3]
            first | (focus (refine takeG 4 (v := ?_) rfl (by kernel_rfl) ?_ ?_ ?_; rotate_left; (focus (first | rfl | (go_simp <;> fail))); (focus (intro w hSw; clear hSw; go_simp; try with_reducible rfl)))) | (refine skipG 4 rfl (by kernel_rfl) ?_ ?_; (focus (first | rfl | (go_simp <;> fail))))
            try simp only [Act.put, nz1, nz2, nz3]
            first | (focus (refine takeG 5 (v := ?_) rfl (by kernel_rfl) ?_ ?_ ?_; rotate_left; (focus (first | rfl | (go_simp <;> fail))); (focus (intro w hSw; clear hSw; go_simp; try with_reducible rfl)))) | (refine skipG 5 rfl (by kernel_rfl) ?_ ?_; (focus (first | rfl | (go_simp <;> fail))))
            try simp only [Act.put, nz1, nz2, nz3]
            first | (focus (refine takeG 6 (v := ?_) rfl (by kernel_rfl) ?_ ?_ ?_; rotate_left; (focus (first | rfl | (go_simp <;> fail))); (focus (intro w hSw; clear hSw; go_simp; try with_reducible rfl)))) | (refine skipG 6 rfl (by kernel_rfl) ?_ ?_; (focus (first | rfl | (go_simp <;> fail))))
            try simp only [Act.put, nz1, nz2, nz3]
            first | (focus (refine' takeG 7 rfl (by kernel_rfl) ?_ ?_ ?_; rotate_left; (focus (first | rfl | (go_simp <;> fail))); (focus (intro w hSw; refine' yield_loads rfl rowT30 rfl ?_ w hSw; (first | (apply FindsX.box; (· (repeat constructor)); (· (repeat constructor)); done) | (refine FindsX.mem (by assumption) ?_; first | rfl | assumption | (simp; done))))))) | (refine skipG 7 rfl (by kernel_rfl) ?_ ?_; (focus (first | rfl | (go_simp <;> fail))))
            try simp only [Act.put, nz1, nz2, nz3]
            first | (focus (refine' takeG 8 rfl (by kernel_rfl) ?_ ?_ ?_; rotate_left; (focus (first | rfl | (go_simp <;> fail))); (focus (intro w hSw; refine' yield_loads rfl rowT30 rfl ?_ w hSw; (first | (apply FindsX.box; (· (repeat constructor)); (· (repeat constructor)); done) | (refine FindsX.mem (by assumption) ?_; first | rfl | assumption | (simp; done))))))) | (refine skipG 8 rfl (by kernel_rfl) ?_ ?_; (focus (first | rfl | (go_simp <;> fail))))
            try simp only [Act.put, nz1, nz2, nz3]
            refine wpAnyH_ready (rs := [9]) (by kernel_rfl) (by simp) ?_
            refine consL 9 rfl (fun K hK => ?_) AllReadyH.nil
            rw [if_neg (by exact Bool.false_ne_true)]
            refine hK.out _ _ (by first | exact (hS.sx0.cons hS (by (repeat constructor))) | exact Sx.le (by assumption) (hS.sx0.cons hS (by (repeat constructor)))) (fun hHeld => ?_)
            clear hK K
            try simp only [Act.put, nz1, nz2, nz3]
            first | (focus (refine takeG 10 (v := ?_) rfl (by kernel_rfl) ?_ ?_ ?_; rotate_left; (focus (first | rfl | (go_simp <;> fail))); (focus (intro w hSw; clear hSw; go_simp; try with_reducible rfl)))) | (refine skipG 10 rfl (by kernel_rfl) ?_ ?_; (focus (first | rfl | (go_simp <;> fail))))
            try simp only [Act.put, nz1, nz2, nz3]
            focus (refine takeN 11 (v := ?_) rfl (by kernel_rfl) ?_ ?_; rotate_left; focus (intro w hSw; clear hSw; go_simp; try with_reducible rfl))
            try simp only [Act.put, nz1, nz2, nz3]
            focus (refine takeN 12 (v := ?_) rfl (by kernel_rfl) ?_ ?_; rotate_left; focus (intro w hSw; clear hSw; go_simp; try with_reducible rfl))
            try simp only [Act.put, nz1, nz2, nz3]
            first | (focus (refine takeG 13 (v := ?_) rfl (by kernel_rfl) ?_ ?_ ?_; rotate_left; (focus (first | rfl | (go_simp <;> fail))); (focus (intro w hSw; clear hSw; go_simp; try with_reducible rfl)))) | (refine skipG 13 rfl (by kernel_rfl) ?_ ?_; (focus (first | rfl | (go_simp <;> fail))))
            try simp only [Act.put, nz1, nz2, nz3]
            first | (focus (refine' takeG 14 rfl (by kernel_rfl) ?_ ?_ ?_; rotate_left; (focus (first | rfl | (go_simp <;> fail))); (focus (intro w hSw; refine' yield_load rfl Try.underlying2 rfl rfl ?_ w hSw; (first | (apply FindX.box; (· (repeat constructor)); rfl) | exact FindX.mem (by assumption)))))) | (refine skipG 14 rfl (by kernel_rfl) ?_ ?_; (focus (first | rfl | (go_simp <;> fail))))
            try simp only [Act.put, nz1, nz2, nz3]
            first | (focus (refine takeG 15 (v := ?_) rfl (by kernel_rfl) ?_ ?_ ?_; rotate_left; (focus (first | rfl | (go_simp <;> fail))); (focus (intro w hSw; clear hSw; go_simp; try with_reducible rfl)))) | (refine skipG 15 rfl (by kernel_rfl) ?_ ?_; (focus (first | rfl | (go_simp <;> fail))))
            try simp only [Act.put, nz1, nz2, nz3]
            first | (focus (refine takeG 16 (v := ?_) rfl (by kernel_rfl) ?_ ?_ ?_; rotate_left; (focus (first | rfl | (go_simp <;> fail))); (focus (intro w hSw; clear hSw; go_simp; try with_reducible rfl)))) | (refine skipG 16 rfl (by kernel_rfl) ?_ ?_; (focus (first | rfl | (go_simp <;> fail))))
            try simp only [Act.put, nz1, nz2, nz3]
            first | (focus (refine' takeG 17 rfl (by kernel_rfl) ?_ ?_ ?_; rotate_left; (focus (first | rfl | (go_simp <;> fail))); (focus (intro w hSw; refine' yield_load rfl Try.underlying2 rfl rfl ?_ w hSw; (first | (apply FindX.box; (· (repeat constructor)); rfl) | exact FindX.mem (by assumption)))))) | (refine skipG 17 rfl (by kernel_rfl) ?_ ?_; (focus (first | rfl | (go_simp <;> fail))))
            try simp only [Act.put, nz1, nz2, nz3]
            first | (focus (refine takeG 18 (v := ?_) rfl (by kernel_rfl) ?_ ?_ ?_; rotate_left; (focus (first | rfl | (go_simp <;> fail))); (focus (intro w hSw; clear hSw; go_simp; try with_reducible rfl)))) | (refine skipG 18 rfl (by kernel_rfl) ?_ ?_; (focus (first | rfl | (go_simp <;> fail))))
            try simp only [Act.put, nz1, nz2, nz3]
            first | (focus (refine' takeG 19 rfl (by kernel_rfl) ?_ ?_ ?_; rotate_left; (focus (first | rfl | (go_simp <;> fail))); (focus (intro w hSw; refine' yield_load rfl Try.underlying25 rfl rfl ?_ w hSw; (first | (apply FindX.box; (· (repeat constructor)); rfl) | exact FindX.mem (by assumption)))))) | (refine skipG 19 rfl (by kernel_rfl) ?_ ?_; (focus (first | rfl | (go_simp <;> fail))))
            try simp only [Act.put, nz1, nz2, nz3]
            first | (focus (refine takeG 20 (v := ?_) rfl (by kernel_rfl) ?_ ?_ ?_; rotate_left; (focus (first | rfl | (go_simp <;> fail))); (focus (intro w hSw; clear hSw; go_simp; try with_reducible rfl)))) | (refine skipG 20 rfl (by kernel_rfl) ?_ ?_; (focus (first | rfl | (go_simp <;> fail))))
            try simp only [Act.put, nz1, nz2, nz3]
            first | (focus (refine takeG 21 (v := ?_) rfl (by kernel_rfl) ?_ ?_ ?_; rotate_left; (focus (first | rfl | (go_simp <;> fail))); (focus (intro w hSw; clear hSw; go_simp; try with_reducible rfl)))) | (refine skipG 21 rfl (by kernel_rfl) ?_ ?_; (focus (first | rfl | (go_simp <;> fail))))
            try simp only [Act.put, nz1, nz2, nz3]
            focus (refine takeN 22 (v := ?_) rfl (by kernel_rfl) ?_ ?_; rotate_left; focus (intro w hSw; clear hSw; go_simp; try with_reducible rfl))
            try simp only [Act.put, nz1, nz2, nz3]
            refine wpAnyH_done (by kernel_rfl) ?_ _
            refine NoPanic.normal ?_
            all_goals
              go_wp2_with fail
              go_roundw
              case rel => exact ⟨0 + 1, hlt, by go_num, hS.forget (x := .box b21 _) (by (repeat constructor))⟩
              case measure => simp [intOf]; omega
          · obtain ⟨p, rfl⟩ : ∃ p, i = p + 1 := ⟨i - 1, by omega⟩
            obtain ⟨b2, o2, cs, e2, hcs, hcell⟩ := HU.out.get p (by omega)
            cases e2
            obtain ⟨rfl, _, _⟩ := hitL_open hcs
            have hcy : ∀ k v, [Value.int .i64 Y102[p].dist, .int .i64 Y102[p].id][k]? = some v → m120 ⟨bs, os + p * 2 + k, none⟩ = some v := hcell
            have hLx : Hid (decide ((⟨Y102[p].dist, Y102[p].id⟩ : Hit).lt ⟨far.getD j 0, (j : Nat)⟩) = true) := decide_eq_true (by
              have := HN.out.1 p hlt
              rw [hxj] at this
              rwa [show Y102.getD p hz = Y102[p] by simp [List.getD, show p < Y102.length by omega]] at this)
            have hp1 : (p : Int) < Y102.length := by omega
            have hw1 : IntKind.i64.wrap (p : Int) = p := wrap64 (by omega) (by omega)
            clear hcs hcell hgi hxj
            generalize far.getD j 0 = x at *
            generalize Y102[p] = y at *
            go_wp2_with (first
    | ((with_reducible refine' Wl.out ?_; apply k_alloc (ty := 30) (dst := some 21) hS); (· exact .mk); clear hS; intro w21 b21 hS)
    | ((with_reducible refine' Wl.out ?_; apply k_alloc (ty := 30) (dst := some 24) hS); (· exact .mk); clear hS; intro w24 b24 hS)
    | ((with_reducible refine' Wl.out ?_; apply k_load hS); (· exact .mk))
    | ((with_reducible refine' Wl.out ?_; apply k_loads hS); (· exact .mk))
    | go_skip
    | ((with_reducible refine' Wl.out ?_; apply kg_load hS); iterate 2 (· exact .mk))
    | ((with_reducible refine' Wl.out ?_; apply kg_loads hS); iterate 2 (· exact .mk))
    | ((with_reducible refine' Wl.out ?_; refine' wg_case ?_ ?_) <;> (intro hgW; (try (have hg2 := hgW; simp [go_sem] at hg2)); (first | (exfalso; assumption) | ((with_reducible refine' Wl.out ?_; apply k_no hgW)) | ((with_reducible refine' Wl.out ?_; apply kg_load hS ⟨hgW⟩); (· exact .mk)) | ((with_reducible refine' Wl.out ?_; apply kg_loads hS ⟨hgW⟩); (· exact .mk))); clear hgW))
    | ((with_reducible refine' Wl.out ?_; apply k_stores hS); (· exact .mk); clear hS; intro ws hS)
              | ((with_reducible refine' Wl.out ?_; apply wl_mapUpdateB (c := true) hS mapTB); (· exact rfl); (· exact rfl); (· exact ij.out); (· exact rfl); (· exact hsz); (· exact hfun.out); (· repeat constructor); clear hS; intro w133 hS))
            replace hS := hS.drew
            refine startL (S := Sx _ [(b21, _)]) (by kernel_rfl) (hS.sx0.cons hS (by (repeat constructor))) (fun _ _ _ _ => trivial) (fun hHeld => ?_)
            focus (refine takeN 0 (v := ?_) rfl (by kernel_rfl) ?_ ?_; rotate_left; focus (intro w hSw; clear hSw; go_simp; try with_reducible rfl))
            try simp only [Act.put, nz1, nz2, nz3]
            focus (refine takeN 1 (v := ?_) rfl (by kernel_rfl) ?_ ?_; rotate_left; focus (intro w hSw; clear hSw; go_simp; try with_reducible rfl))
            try simp only [Act.put, nz1, nz2, nz3]
            focus (refine takeN 2 (v := ?_) rfl (by kernel_rfl) ?_ ?_; rotate_left; focus (intro w hSw; clear hSw; go_simp; try with_reducible rfl))
            try simp only [Act.put, nz1, nz2, nz3]
            first | (focus (refine takeG 3 (v := ?_) rfl (by kernel_rfl) ?_ ?_ ?_; rotate_left; (focus (first | rfl | (go_simp <;> fail))); (focus (intro w hSw; clear hSw; go_simp; try with_reducible rfl)))) | (refine skipG 3 rfl (by kernel_rfl) ?_ ?_; (focus (first | rfl | (go_simp <;> fail))))
            try simp only [Act.put, nz1, nz2, nz3]
            first | (focus (refine takeG 4 (v := ?_) rfl (by kernel_rfl) ?_ ?_ ?_; rotate_left; (focus (first | rfl | (go_simp <;> fail))); (focus (intro w hSw; clear hSw; go_simp; try with_reducible rfl)))) | (refine skipG 4 rfl (by kernel_rfl) ?_ ?_; (focus (first | rfl | (go_simp <;> fail))))
            try simp only [Act.put, nz1, nz2, nz3]
            first | (focus (refine takeG 5 (v := ?_) rfl (by kernel_rfl) ?_ ?_ ?_; rotate_left; (focus (first | rfl | (go_simp <;> fail))); (focus (intro w hSw; clear hSw; go_simp; try with_reducible rfl)))) | (refine skipG 5 rfl (by kernel_rfl) ?_ ?_; (focus (first | rfl | (go_simp <;> fail))))
            try simp only [Act.put, nz1, nz2, nz3]
            first | (focus (refine takeG 6 (v := ?_) rfl (by kernel_rfl) ?_ ?_ ?_; rotate_left; (focus (first | rfl | (go_simp <;> fail))); (focus (intro w hSw; clear hSw; go_simp; try with_reducible rfl)))) | (refine skipG 6 rfl (by kernel_rfl) ?_ ?_; (focus (first | rfl | (go_simp <;> fail))))
            try simp only [Act.put, nz1, nz2, nz3]
            first | (focus (refine' takeG 7 rfl (by kernel_rfl) ?_ ?_ ?_; rotate_left; (focus (first | rfl | (go_simp <;> fail))); (focus (intro w hSw; refine' yield_loads rfl rowT30 rfl ?_ w hSw; (first | (apply FindsX.box; (· (repeat constructor)); (· (repeat constructor)); done) | (refine FindsX.mem (by assumption) ?_; first | rfl | assumption | (simp; done))))))) | (refine skipG 7 rfl (by kernel_rfl) ?_ ?_; (focus (first | rfl | (go_simp <;> fail))))
            try simp only [Act.put, nz1, nz2, nz3]
            first | (focus (refine' takeG 8 rfl (by kernel_rfl) ?_ ?_ ?_; rotate_left; (focus (first | rfl | (go_simp <;> fail))); (focus (intro w hSw; refine' yield_loads rfl rowT30 rfl ?_ w hSw; (first | (apply FindsX.box; (· (repeat constructor)); (· (repeat constructor)); done) | (refine FindsX.mem (by assumption) ?_; first | rfl | assumption | (simp; done))))))) | (refine skipG 8 rfl (by kernel_rfl) ?_ ?_; (focus (first | rfl | (go_simp <;> fail))))
            try simp only [Act.put, nz1, nz2, nz3]
            refine wpAnyH_ready (rs := [9]) (by kernel_rfl) (by simp) ?_
            refine consL 9 rfl (fun K hK => ?_) AllReadyH.nil
            rw [if_pos (by rfl)]; go_simp; refine (less_v (World.mem _) _ (World.mem_in _) _ _ _ _).mono ?_; rintro e' w143 ⟨_, m143, rfl, hv143, hk143⟩; replace hS := hS.grow (grownBy_of_below hk143.below); clear hk143; rw [hLx.out] at hv143; subst hv143; go_wp2_with fail
            refine hK.out _ _ (by first | exact (hS.sx0.cons hS (by (repeat constructor))) | exact Sx.le (by assumption) (hS.sx0.cons hS (by (repeat constructor)))) (fun hHeld => ?_)
            clear hK K
            try simp only [Act.put, nz1, nz2, nz3]
            first | (focus (refine takeG 10 (v := ?_) rfl (by kernel_rfl) ?_ ?_ ?_; rotate_left; (focus (first | rfl | (go_simp <;> fail))); (focus (intro w hSw; clear hSw; go_simp; try with_reducible rfl)))) | (refine skipG 10 rfl (by kernel_rfl) ?_ ?_; (focus (first | rfl | (go_simp <;> fail))))
            try simp only [Act.put, nz1, nz2, nz3]
            focus (refine takeN 11 (v := ?_) rfl (by kernel_rfl) ?_ ?_; rotate_left; focus (intro w hSw; clear hSw; go_simp; try with_reducible rfl))
            try simp only [Act.put, nz1, nz2, nz3]
            focus (refine takeN 12 (v := ?_) rfl (by kernel_rfl) ?_ ?_; rotate_left; focus (intro w hSw; clear hSw; go_simp; try with_reducible rfl))
            try simp only [Act.put, nz1, nz2, nz3]
            first | (focus (refine takeG 13 (v := ?_) rfl (by kernel_rfl) ?_ ?_ ?_; rotate_left; (focus (first | rfl | (go_simp <;> fail))); (focus (intro w hSw; clear hSw; go_simp; try with_reducible rfl)))) | (refine skipG 13 rfl (by kernel_rfl) ?_ ?_; (focus (first | rfl | (go_simp <;> fail))))
            try simp only [Act.put, nz1, nz2, nz3]
            first | (focus (refine' takeG 14 rfl (by kernel_rfl) ?_ ?_ ?_; rotate_left; (focus (first | rfl | (go_simp <;> fail))); (focus (intro w hSw; refine' yield_load rfl Try.underlying2 rfl rfl ?_ w hSw; (first | (apply FindX.box; (· (repeat constructor)); rfl) | exact FindX.mem (by assumption)))))) | (refine skipG 14 rfl (by kernel_rfl) ?_ ?_; (focus (first | rfl | (go_simp <;> fail))))
            try simp only [Act.put, nz1, nz2, nz3]
            first | (focus (refine takeG 15 (v := ?_) rfl (by kernel_rfl) ?_ ?_ ?_; rotate_left; (focus (first | rfl | (go_simp <;> fail))); (focus (intro w hSw; clear hSw; go_simp; try with_reducible rfl)))) | (refine skipG 15 rfl (by kernel_rfl) ?_ ?_; (focus (first | rfl | (go_simp <;> fail))))
            try simp only [Act.put, nz1, nz2, nz3]
            first | (focus (refine takeG 16 (v := ?_) rfl (by kernel_rfl) ?_ ?_ ?_; rotate_left; (focus (first | rfl | (go_simp <;> fail))); (focus (intro w hSw; clear hSw; go_simp; try with_reducible rfl)))) | (refine skipG 16 rfl (by kernel_rfl) ?_ ?_; (focus (first | rfl | (go_simp <;> fail))))
            try simp only [Act.put, nz1, nz2, nz3]
            first | (focus (refine' takeG 17 rfl (by kernel_rfl) ?_ ?_ ?_; rotate_left; (focus (first | rfl | (go_simp <;> fail))); (focus (intro w hSw; refine' yield_load rfl Try.underlying2 rfl rfl ?_ w hSw; (first | (apply FindX.box; (· (repeat constructor)); rfl) | exact FindX.mem (by assumption)))))) | (refine skipG 17 rfl (by kernel_rfl) ?_ ?_; (focus (first | rfl | (go_simp <;> fail))))
            try simp only [Act.put, nz1, nz2, nz3]
            first | (focus (refine takeG 18 (v := ?_) rfl (by kernel_rfl) ?_ ?_ ?_; rotate_left; (focus (first | rfl | (go_simp <;> fail))); (focus (intro w hSw; clear hSw; go_simp; try with_reducible rfl)))) | (refine skipG 18 rfl (by kernel_rfl) ?_ ?_; (focus (first | rfl | (go_simp <;> fail))))
            try simp only [Act.put, nz1, nz2, nz3]
            first | (focus (refine' takeG 19 rfl (by kernel_rfl) ?_ ?_ ?_; rotate_left; (focus (first | rfl | (go_simp <;> fail))); (focus (intro w hSw; refine' yield_load rfl Try.underlying25 rfl rfl ?_ w hSw; (first | (apply FindX.box; (· (repeat constructor)); rfl) | exact FindX.mem (by assumption)))))) | (refine skipG 19 rfl (by kernel_rfl) ?_ ?_; (focus (first | rfl | (go_simp <;> fail))))
            try simp only [Act.put, nz1, nz2, nz3]
            first | (focus (refine takeG 20 (v := ?_) rfl (by kernel_rfl) ?_ ?_ ?_; rotate_left; (focus (first | rfl | (go_simp <;> fail))); (focus (intro w hSw; clear hSw; go_simp; try with_reducible rfl)))) | (refine skipG 20 rfl (by kernel_rfl) ?_ ?_; (focus (first | rfl | (go_simp <;> fail))))
            try simp only [Act.put, nz1, nz2, nz3]
            first | (focus (refine takeG 21 (v := ?_) rfl (by kernel_rfl) ?_ ?_ ?_; rotate_left; (focus (first | rfl | (go_simp <;> fail))); (focus (intro w hSw; clear hSw; go_simp; try with_reducible rfl)))) | (refine skipG 21 rfl (by kernel_rfl) ?_ ?_; (focus (first | rfl | (go_simp <;> fail))))
            try simp only [Act.put, nz1, nz2, nz3]
            focus (refine takeN 22 (v := ?_) rfl (by kernel_rfl) ?_ ?_; rotate_left; focus (intro w hSw; clear hSw; go_simp; try with_reducible rfl))
            try simp only [Act.put, nz1, nz2, nz3]
            refine wpAnyH_done (by kernel_rfl) ?_ _
            refine NoPanic.normal ?_
            all_goals
              go_wp2_with fail
              go_roundw
              case rel => exact ⟨p + 1 + 1, hlt, by go_num, hS.forget (x := .box b21 _) (by (repeat constructor))⟩
              case measure => simp [intOf]; omega
        · obtain rfl : i = Y102.length := by omega
          go_wp2_with (first
    | ((with_reducible refine' Wl.out ?_; apply k_alloc (ty := 30) (dst := some 21) hS); (· exact .mk); clear hS; intro w21 b21 hS)
    | ((with_reducible refine' Wl.out ?_; apply k_alloc (ty := 30) (dst := some 24) hS); (· exact .mk); clear hS; intro w24 b24 hS)
    | ((with_reducible refine' Wl.out ?_; apply k_load hS); (· exact .mk))
    | ((with_reducible refine' Wl.out ?_; apply k_loads hS); (· exact .mk))
    | go_skip
    | ((with_reducible refine' Wl.out ?_; apply kg_load hS); iterate 2 (· exact .mk))
    | ((with_reducible refine' Wl.out ?_; apply kg_loads hS); iterate 2 (· exact .mk))
    | ((with_reducible refine' Wl.out ?_; refine' wg_case ?_ ?_) <;> (intro hgW; (try (have hg2 := hgW; simp [go_sem] at hg2)); (first | (exfalso; assumption) | ((with_reducible refine' Wl.out ?_; apply k_no hgW)) | ((with_reducible refine' Wl.out ?_; apply kg_load hS ⟨hgW⟩); (· exact .mk)) | ((with_reducible refine' Wl.out ?_; apply kg_loads hS ⟨hgW⟩); (· exact .mk))); clear hgW))
    | ((with_reducible refine' Wl.out ?_; apply k_stores hS); (· exact .mk); clear hS; intro ws hS))
          go_loopw [160] (fun i wr => ∃ i' : Nat, i' ≤ far.length ∧ i = .int .i64 i' ∧ St [] w (World.mem w) wr [.obj b123 (MapB Try.prog 2 4 .i64 Y102.length (inF Y102 Y102.length))] m120) (fun i _ => far.length - (intOf i).toNat)
          case atStart => exact ⟨0, Nat.zero_le _, rfl, hS⟩
          case round =>
            clear hS
            obtain ⟨i, hi, rfl, hS⟩ := hrel
            by_cases hlt : i < far.length
            · obtain ⟨bq, oq, rfl, hcellq⟩ := HR.out (by omega)
              have hx := HW.out (far.getD i 0) (by simp [List.getD, hlt])
              have cq := hS.le _ _ (hcellq i hlt)
              have ij := Lib.hid (show InK .i64 (i : Int) from inK64 (by omega) (by omega))
              have e1 : IntKind.i64.wrap (far.getD i 0) = far.getD i 0 := wrap64 (by omega) (by omega)
              have hi1 : (i : Int) < far.length := by omega
              clear hcellq
              by_cases hin : (i : Int) ∈ Y102.map Hit.id
              · have hlook := Lib.hid ((inF_all (s := Y102) (z := (i : Int))).trans (decide_eq_true hin))
                clear hin
                generalize far.getD i 0 = x at *
                go_wp2_with (first
    | ((with_reducible refine' Wl.out ?_; apply k_alloc (ty := 30) (dst := some 21) hS); (· exact .mk); clear hS; intro w21 b21 hS)
    | ((with_reducible refine' Wl.out ?_; apply k_alloc (ty := 30) (dst := some 24) hS); (· exact .mk); clear hS; intro w24 b24 hS)
    | ((with_reducible refine' Wl.out ?_; apply k_load hS); (· exact .mk))
    | ((with_reducible refine' Wl.out ?_; apply k_loads hS); (· exact .mk))
    | go_skip
    | ((with_reducible refine' Wl.out ?_; apply kg_load hS); iterate 2 (· exact .mk))
    | ((with_reducible refine' Wl.out ?_; apply kg_loads hS); iterate 2 (· exact .mk))
    | ((with_reducible refine' Wl.out ?_; refine' wg_case ?_ ?_) <;> (intro hgW; (try (have hg2 := hgW; simp [go_sem] at hg2)); (first | (exfalso; assumption) | ((with_reducible refine' Wl.out ?_; apply k_no hgW)) | ((with_reducible refine' Wl.out ?_; apply kg_load hS ⟨hgW⟩); (· exact .mk)) | ((with_reducible refine' Wl.out ?_; apply kg_loads hS ⟨hgW⟩); (· exact .mk))); clear hgW))
    | ((with_reducible refine' Wl.out ?_; apply k_stores hS); (· exact .mk); clear hS; intro ws hS))
                replace hS := hS.drew
                refine startL (S := Sx _ [(b24, _)]) (by kernel_rfl) (hS.sx0.cons hS (by (repeat constructor))) (fun _ _ _ _ => trivial) (fun hHeld => ?_)
                focus (refine takeN 0 (v := ?_) rfl (by kernel_rfl) ?_ ?_; rotate_left; focus (intro w hSw; clear hSw; go_simp; try with_reducible rfl))
                try simp only [Act.put, nz1, nz2, nz3]
                focus (refine takeN 1 (v := ?_) rfl (by kernel_rfl) ?_ ?_; rotate_left; focus (intro w hSw; clear hSw; go_simp; try with_reducible rfl))
                try simp only [Act.put, nz1, nz2, nz3]
                refine takeN 2 rfl (by kernel_rfl) (yield_load rfl Try.underlying2 rfl rfl (by (first | (apply FindX.box; (· (repeat constructor)); rfl) | exact FindX.mem (by assumption)))) ?_
                try simp only [Act.put, nz1, nz2, nz3]
                refine wpAnyH_ready (rs := [3]) (by kernel_rfl) (by simp) ?_
                refine consL 3 rfl (fun K hK => ?_) AllReadyH.nil
                (with_reducible apply s_lookupB hS mapTB); (· exact rfl); (· (repeat constructor)); (· exact rfl); (· exact ij.out); (· exact hlook.out)
                refine hK.out _ _ (by first | exact (hS.sx0.cons hS (by (repeat constructor))) | exact Sx.le (by assumption) (hS.sx0.cons hS (by (repeat constructor)))) (fun hHeld => ?_)
                clear hK K
                try simp only [Act.put, nz1, nz2, nz3]
                focus (refine takeN 4 (v := ?_) rfl (by kernel_rfl) ?_ ?_; rotate_left; focus (intro w hSw; clear hSw; go_simp; try with_reducible rfl))
                try simp only [Act.put, nz1, nz2, nz3]
                focus (refine takeN 5 (v := ?_) rfl (by kernel_rfl) ?_ ?_; rotate_left; focus (intro w hSw; clear hSw; go_simp; try with_reducible rfl))
                try simp only [Act.put, nz1, nz2, nz3]
                first | (focus (refine takeG 6 (v := ?_) rfl (by kernel_rfl) ?_ ?_ ?_; rotate_left; (focus (first | rfl | (go_simp <;> fail))); (focus (intro w hSw; clear hSw; go_simp; try with_reducible rfl)))) | (refine skipG 6 rfl (by kernel_rfl) ?_ ?_; (focus (first | rfl | (go_simp <;> fail))))
                try simp only [Act.put, nz1, nz2, nz3]
                first | (focus (refine takeG 7 (v := ?_) rfl (by kernel_rfl) ?_ ?_ ?_; rotate_left; (focus (first | rfl | (go_simp <;> fail))); (focus (intro w hSw; clear hSw; go_simp; try with_reducible rfl)))) | (refine skipG 7 rfl (by kernel_rfl) ?_ ?_; (focus (first | rfl | (go_simp <;> fail))))
                try simp only [Act.put, nz1, nz2, nz3]
                first | (focus (refine takeG 8 (v := ?_) rfl (by kernel_rfl) ?_ ?_ ?_; rotate_left; (focus (first | rfl | (go_simp <;> fail))); (focus (intro w hSw; clear hSw; go_simp; try with_reducible rfl)))) | (refine skipG 8 rfl (by kernel_rfl) ?_ ?_; (focus (first | rfl | (go_simp <;> fail))))
                try simp only [Act.put, nz1, nz2, nz3]
                first | (focus (refine takeG 9 (v := ?_) rfl (by kernel_rfl) ?_ ?_ ?_; rotate_left; (focus (first | rfl | (go_simp <;> fail))); (focus (intro w hSw; clear hSw; go_simp; try with_reducible rfl)))) | (refine skipG 9 rfl (by kernel_rfl) ?_ ?_; (focus (first | rfl | (go_simp <;> fail))))
                try simp only [Act.put, nz1, nz2, nz3]
                first | (focus (refine takeG 10 (v := ?_) rfl (by kernel_rfl) ?_ ?_ ?_; rotate_left; (focus (first | rfl | (go_simp <;> fail))); (focus (intro w hSw; clear hSw; go_simp; try with_reducible rfl)))) | (refine skipG 10 rfl (by kernel_rfl) ?_ ?_; (focus (first | rfl | (go_simp <;> fail))))
                try simp only [Act.put, nz1, nz2, nz3]
                first | (focus (refine' takeG 11 rfl (by kernel_rfl) ?_ ?_ ?_; rotate_left; (focus (first | rfl | (go_simp <;> fail))); (focus (intro w hSw; refine' yield_loads rfl rowT30 rfl ?_ w hSw; (first | (apply FindsX.box; (· (repeat constructor)); (· (repeat constructor)); done) | (refine FindsX.mem (by assumption) ?_; first | rfl | assumption | (simp; done))))))) | (refine skipG 11 rfl (by kernel_rfl) ?_ ?_; (focus (first | rfl | (go_simp <;> fail))))
                try simp only [Act.put, nz1, nz2, nz3]
                first | (focus (refine takeG 12 (v := ?_) rfl (by kernel_rfl) ?_ ?_ ?_; rotate_left; (focus (first | rfl | (go_simp <;> fail))); (focus (intro w hSw; clear hSw; go_simp; try with_reducible rfl)))) | (refine skipG 12 rfl (by kernel_rfl) ?_ ?_; (focus (first | rfl | (go_simp <;> fail))))
                try simp only [Act.put, nz1, nz2, nz3]
                first | (focus (refine takeG 13 (v := ?_) rfl (by kernel_rfl) ?_ ?_ ?_; rotate_left; (focus (first | rfl | (go_simp <;> fail))); (focus (intro w hSw; clear hSw; go_simp; try with_reducible rfl)))) | (refine skipG 13 rfl (by kernel_rfl) ?_ ?_; (focus (first | rfl | (go_simp <;> fail))))
                try simp only [Act.put, nz1, nz2, nz3]
                first | (focus (refine takeG 14 (v := ?_) rfl (by kernel_rfl) ?_ ?_ ?_; rotate_left; (focus (first | rfl | (go_simp <;> fail))); (focus (intro w hSw; clear hSw; go_simp; try with_reducible rfl)))) | (refine skipG 14 rfl (by kernel_rfl) ?_ ?_; (focus (first | rfl | (go_simp <;> fail))))
                try simp only [Act.put, nz1, nz2, nz3]
                first | (focus (refine takeG 15 (v := ?_) rfl (by kernel_rfl) ?_ ?_ ?_; rotate_left; (focus (first | rfl | (go_simp <;> fail))); (focus (intro w hSw; clear hSw; go_simp; try with_reducible rfl)))) | (refine skipG 15 rfl (by kernel_rfl) ?_ ?_; (focus (first | rfl | (go_simp <;> fail))))
                try simp only [Act.put, nz1, nz2, nz3]
                first | (focus (refine takeG 16 (v := ?_) rfl (by kernel_rfl) ?_ ?_ ?_; rotate_left; (focus (first | rfl | (go_simp <;> fail))); (focus (intro w hSw; clear hSw; go_simp; try with_reducible rfl)))) | (refine skipG 16 rfl (by kernel_rfl) ?_ ?_; (focus (first | rfl | (go_simp <;> fail))))
                try simp only [Act.put, nz1, nz2, nz3]
                first | (focus (refine' takeG 17 rfl (by kernel_rfl) ?_ ?_ ?_; rotate_left; (focus (first | rfl | (go_simp <;> fail))); (focus (intro w hSw; refine' yield_loads rfl rowT30 rfl ?_ w hSw; (first | (apply FindsX.box; (· (repeat constructor)); (· (repeat constructor)); done) | (refine FindsX.mem (by assumption) ?_; first | rfl | assumption | (simp; done))))))) | (refine skipG 17 rfl (by kernel_rfl) ?_ ?_; (focus (first | rfl | (go_simp <;> fail))))
                try simp only [Act.put, nz1, nz2, nz3]
                refine wpAnyH_ready (rs := [18]) (by kernel_rfl) (by simp) ?_
                refine consL 18 rfl (fun K hK => ?_) AllReadyH.nil
                rw [if_neg (by exact Bool.false_ne_true)]
                refine hK.out _ _ (by first | exact (hS.sx0.cons hS (by (repeat constructor))) | exact Sx.le (by assumption) (hS.sx0.cons hS (by (repeat constructor)))) (fun hHeld => ?_)
                clear hK K
                try simp only [Act.put, nz1, nz2, nz3]
                first | (focus (refine takeG 19 (v := ?_) rfl (by kernel_rfl) ?_ ?_ ?_; rotate_left; (focus (first | rfl | (go_simp <;> fail))); (focus (intro w hSw; clear hSw; go_simp; try with_reducible rfl)))) | (refine skipG 19 rfl (by kernel_rfl) ?_ ?_; (focus (first | rfl | (go_simp <;> fail))))
                try simp only [Act.put, nz1, nz2, nz3]
                focus (refine takeN 20 (v := ?_) rfl (by kernel_rfl) ?_ ?_; rotate_left; focus (intro w hSw; clear hSw; go_simp; try with_reducible rfl))
                try simp only [Act.put, nz1, nz2, nz3]
                refine wpAnyH_done (by kernel_rfl) ?_ _
                refine NoPanic.normal ?_
                all_goals
                  go_wp2_with fail
                  go_roundw
                  case rel => exact ⟨i + 1, hlt, by go_num, hS.forget (x := .box b24 _) (by (repeat constructor))⟩
                  case measure => simp [intOf]; omega
              · have hlook := Lib.hid ((inF_all (s := Y102) (z := (i : Int))).trans (decide_eq_false hin))
                obtain ⟨g1, g2⟩ := HN.out.2.2.2 i hlt hin
                have hl1 : ¬ (Y102.length : Int) < K := by omega
                have hl0 : 0 < Y102.length := by omega
                clear g1
                have hz1 : (0 : Int) ≤ (Y102.length : Int) - 1 := by omega
                have hz5 : (1 : Int) ≤ Y102.length := by omega
                have hz2 : (Y102.length : Int) - 1 < Y102.length := by omega
                have hz3 : ((Y102.length : Int) - 1).toNat = Y102.length - 1 := by omega
                have hz4 : IntKind.i64.wrap ((Y102.length : Int) - 1) = (Y102.length : Int) - 1 := wrap64 (by omega) (by omega)
                obtain ⟨b2, o2, cs, e2, hcs, hcell⟩ := HU.out.get (Y102.length - 1) (by omega)
                cases e2
                obtain ⟨rfl, _, _⟩ := hitL_open hcs
                have hLx : Hid (decide ((⟨far.getD i 0, (i : Nat)⟩ : Hit).lt ⟨Y102[Y102.length - 1].dist, Y102[Y102.length - 1].id⟩) = false) := decide_eq_false (g2 _ (List.getElem_mem _))
                have hcy : ∀ k v, [Value.int .i64 Y102[Y102.length - 1].dist, .int .i64 Y102[Y102.length - 1].id][k]? = some v → m120 ⟨b2, o2 + (Y102.length - 1) * 2 + k, none⟩ = some v := hcell
                clear hin g2 hcs hcell
                generalize far.getD i 0 = x at *
                generalize Y102[Y102.length - 1] = y at *
                go_wp2_with (first
    | ((with_reducible refine' Wl.out ?_; apply k_alloc (ty := 30) (dst := some 21) hS); (· exact .mk); clear hS; intro w21 b21 hS)
    | ((with_reducible refine' Wl.out ?_; apply k_alloc (ty := 30) (dst := some 24) hS); (· exact .mk); clear hS; intro w24 b24 hS)
    | ((with_reducible refine' Wl.out ?_; apply k_load hS); (· exact .mk))
    | ((with_reducible refine' Wl.out ?_; apply k_loads hS); (· exact .mk))
    | go_skip
    | ((with_reducible refine' Wl.out ?_; apply kg_load hS); iterate 2 (· exact .mk))
    | ((with_reducible refine' Wl.out ?_; apply kg_loads hS); iterate 2 (· exact .mk))
    | ((with_reducible refine' Wl.out ?_; refine' wg_case ?_ ?_) <;> (intro hgW; (try (have hg2 := hgW; simp [go_sem] at hg2)); (first | (exfalso; assumption) | ((with_reducible refine' Wl.out ?_; apply k_no hgW)) | ((with_reducible refine' Wl.out ?_; apply kg_load hS ⟨hgW⟩); (· exact .mk)) | ((with_reducible refine' Wl.out ?_; apply kg_loads hS ⟨hgW⟩); (· exact .mk))); clear hgW))
    | ((with_reducible refine' Wl.out ?_; apply k_stores hS); (· exact .mk); clear hS; intro ws hS))
                replace hS := hS.drew
                refine startL (S := Sx _ [(b24, _)]) (by kernel_rfl) (hS.sx0.cons hS (by (repeat constructor))) (fun _ _ _ _ => trivial) (fun hHeld => ?_)
                focus (refine takeN 0 (v := ?_) rfl (by kernel_rfl) ?_ ?_; rotate_left; focus (intro w hSw; clear hSw; go_simp; try with_reducible rfl))
                try simp only [Act.put, nz1, nz2, nz3]
                focus (refine takeN 1 (v := ?_) rfl (by kernel_rfl) ?_ ?_; rotate_left; focus (intro w hSw; clear hSw; go_simp; try with_reducible rfl))
                try simp only [Act.put, nz1, nz2, nz3]
                refine takeN 2 rfl (by kernel_rfl) (yield_load rfl Try.underlying2 rfl rfl (by (first | (apply FindX.box; (· (repeat constructor)); rfl) | exact FindX.mem (by assumption)))) ?_
                try simp only [Act.put, nz1, nz2, nz3]
                refine wpAnyH_ready (rs := [3]) (by kernel_rfl) (by simp) ?_
                refine consL 3 rfl (fun K hK => ?_) AllReadyH.nil
                (with_reducible apply s_lookupB hS mapTB); (· exact rfl); (· (repeat constructor)); (· exact rfl); (· exact ij.out); (· exact hlook.out)
                refine hK.out _ _ (by first | exact (hS.sx0.cons hS (by (repeat constructor))) | exact Sx.le (by assumption) (hS.sx0.cons hS (by (repeat constructor)))) (fun hHeld => ?_)
                clear hK K
                try simp only [Act.put, nz1, nz2, nz3]
                focus (refine takeN 4 (v := ?_) rfl (by kernel_rfl) ?_ ?_; rotate_left; focus (intro w hSw; clear hSw; go_simp; try with_reducible rfl))
                try simp only [Act.put, nz1, nz2, nz3]
                focus (refine takeN 5 (v := ?_) rfl (by kernel_rfl) ?_ ?_; rotate_left; focus (intro w hSw; clear hSw; go_simp; try with_reducible rfl))
                try simp only [Act.put, nz1, nz2, nz3]
                first | (focus (refine takeG 6 (v := ?_) rfl (by kernel_rfl) ?_ ?_ ?_; rotate_left; (focus (first | rfl | (go_simp <;> fail))); (focus (intro w hSw; clear hSw; go_simp; try with_reducible rfl)))) | (refine skipG 6 rfl (by kernel_rfl) ?_ ?_; (focus (first | rfl | (go_simp <;> fail))))
                try simp only [Act.put, nz1, nz2, nz3]
                first | (focus (refine takeG 7 (v := ?_) rfl (by kernel_rfl) ?_ ?_ ?_; rotate_left; (focus (first | rfl | (go_simp <;> fail))); (focus (intro w hSw; clear hSw; go_simp; try with_reducible rfl)))) | (refine skipG 7 rfl (by kernel_rfl) ?_ ?_; (focus (first | rfl | (go_simp <;> fail))))
                try simp only [Act.put, nz1, nz2, nz3]
                first | (focus (refine takeG 8 (v := ?_) rfl (by kernel_rfl) ?_ ?_ ?_; rotate_left; (focus (first | rfl | (go_simp <;> fail))); (focus (intro w hSw; clear hSw; go_simp; try with_reducible rfl)))) | (refine skipG 8 rfl (by kernel_rfl) ?_ ?_; (focus (first | rfl | (go_simp <;> fail))))
                try simp only [Act.put, nz1, nz2, nz3]
                first | (focus (refine takeG 9 (v := ?_) rfl (by kernel_rfl) ?_ ?_ ?_; rotate_left; (focus (first | rfl | (go_simp <;> fail))); (focus (intro w hSw; clear hSw; go_simp; try with_reducible rfl)))) | (refine skipG 9 rfl (by kernel_rfl) ?_ ?_; (focus (first | rfl | (go_simp <;> fail))))
                try simp only [Act.put, nz1, nz2, nz3]
                first | (focus (refine takeG 10 (v := ?_) rfl (by kernel_rfl) ?_ ?_ ?_; rotate_left; (focus (first | rfl | (go_simp <;> fail))); (focus (intro w hSw; clear hSw; go_simp; try with_reducible rfl)))) | (refine skipG 10 rfl (by kernel_rfl) ?_ ?_; (focus (first | rfl | (go_simp <;> fail))))
                try simp only [Act.put, nz1, nz2, nz3]
                first | (focus (refine' takeG 11 rfl (by kernel_rfl) ?_ ?_ ?_; rotate_left; (focus (first | rfl | (go_simp <;> fail))); (focus (intro w hSw; refine' yield_loads rfl rowT30 rfl ?_ w hSw; (first | (apply FindsX.box; (· (repeat constructor)); (· (repeat constructor)); done) | (refine FindsX.mem (by assumption) ?_; first | rfl | assumption | (simp; done))))))) | (refine skipG 11 rfl (by kernel_rfl) ?_ ?_; (focus (first | rfl | (go_simp <;> fail))))
                try simp only [Act.put, nz1, nz2, nz3]
                first | (focus (refine takeG 12 (v := ?_) rfl (by kernel_rfl) ?_ ?_ ?_; rotate_left; (focus (first | rfl | (go_simp <;> fail))); (focus (intro w hSw; clear hSw; go_simp; try with_reducible rfl)))) | (refine skipG 12 rfl (by kernel_rfl) ?_ ?_; (focus (first | rfl | (go_simp <;> fail))))
                try simp only [Act.put, nz1, nz2, nz3]
                first | (focus (refine takeG 13 (v := ?_) rfl (by kernel_rfl) ?_ ?_ ?_; rotate_left; (focus (first | rfl | (go_simp <;> fail))); (focus (intro w hSw; clear hSw; go_simp; try with_reducible rfl)))) | (refine skipG 13 rfl (by kernel_rfl) ?_ ?_; (focus (first | rfl | (go_simp <;> fail))))
                try simp only [Act.put, nz1, nz2, nz3]
                first | (focus (refine takeG 14 (v := ?_) rfl (by kernel_rfl) ?_ ?_ ?_; rotate_left; (focus (first | rfl | (go_simp <;> fail))); (focus (intro w hSw; clear hSw; go_simp; try with_reducible rfl)))) | (refine skipG 14 rfl (by kernel_rfl) ?_ ?_; (focus (first | rfl | (go_simp <;> fail))))
                try simp only [Act.put, nz1, nz2, nz3]
                first | (focus (refine takeG 15 (v := ?_) rfl (by kernel_rfl) ?_ ?_ ?_; rotate_left; (focus (first | rfl | (go_simp <;> fail))); (focus (intro w hSw; clear hSw; go_simp; try with_reducible rfl)))) | (refine skipG 15 rfl (by kernel_rfl) ?_ ?_; (focus (first | rfl | (go_simp <;> fail))))
                try simp only [Act.put, nz1, nz2, nz3]
                first | (focus (refine takeG 16 (v := ?_) rfl (by kernel_rfl) ?_ ?_ ?_; rotate_left; (focus (first | rfl | (go_simp <;> fail))); (focus (intro w hSw; clear hSw; go_simp; try with_reducible rfl)))) | (refine skipG 16 rfl (by kernel_rfl) ?_ ?_; (focus (first | rfl | (go_simp <;> fail))))
                try simp only [Act.put, nz1, nz2, nz3]
                first | (focus (refine' takeG 17 rfl (by kernel_rfl) ?_ ?_ ?_; rotate_left; (focus (first | rfl | (go_simp <;> fail))); (focus (intro w hSw; refine' yield_loads rfl rowT30 rfl ?_ w hSw; (first | (apply FindsX.box; (· (repeat constructor)); (· (repeat constructor)); done) | (refine FindsX.mem (by assumption) ?_; first | rfl | assumption | (simp; done))))))) | (refine skipG 17 rfl (by kernel_rfl) ?_ ?_; (focus (first | rfl | (go_simp <;> fail))))
                try simp only [Act.put, nz1, nz2, nz3]
                refine wpAnyH_ready (rs := [18]) (by kernel_rfl) (by simp) ?_
                refine consL 18 rfl (fun K hK => ?_) AllReadyH.nil
                rw [if_pos (by first | rfl | (go_simp; done))]; go_simp; refine (less_v (World.mem _) _ (World.mem_in _) _ _ _ _).mono ?_; rintro e' w187 ⟨_, m187, rfl, hv187, hk187⟩; replace hS := hS.grow (grownBy_of_below hk187.below); clear hk187; rw [hLx.out] at hv187; subst hv187; go_wp2_with fail
                refine hK.out _ _ (by first | exact (hS.sx0.cons hS (by (repeat constructor))) | exact Sx.le (by assumption) (hS.sx0.cons hS (by (repeat constructor)))) (fun hHeld => ?_)
                clear hK K
                try simp only [Act.put, nz1, nz2, nz3]
                first | (focus (refine takeG 19 (v := ?_) rfl (by kernel_rfl) ?_ ?_ ?_; rotate_left; (focus (first | rfl | (go_simp <;> fail))); (focus (intro w hSw; clear hSw; go_simp; try with_reducible rfl)))) | (refine skipG 19 rfl (by kernel_rfl) ?_ ?_; (focus (first | rfl | (go_simp <;> fail))))
                try simp only [Act.put, nz1, nz2, nz3]
                focus (refine takeN 20 (v := ?_) rfl (by kernel_rfl) ?_ ?_; rotate_left; focus (intro w hSw; clear hSw; go_simp; try with_reducible rfl))
                try simp only [Act.put, nz1, nz2, nz3]
                refine wpAnyH_done (by kernel_rfl) ?_ _
                refine NoPanic.normal ?_
                all_goals
                  go_wp2_with fail
                  go_roundw
                  case rel => exact ⟨i + 1, hlt, by go_num, hS.forget (x := .box b24 _) (by (repeat constructor))⟩
                  case measure => simp [intOf]; omega
            · obtain rfl : i = far.length := by omega
              go_wp2_with (first
    | ((with_reducible refine' Wl.out ?_; apply k_alloc (ty := 30) (dst := some 21) hS); (· exact .mk); clear hS; intro w21 b21 hS)
    | ((with_reducible refine' Wl.out ?_; apply k_alloc (ty := 30) (dst := some 24) hS); (· exact .mk); clear hS; intro w24 b24 hS)
    | ((with_reducible refine' Wl.out ?_; apply k_load hS); (· exact .mk))
    | ((with_reducible refine' Wl.out ?_; apply k_loads hS); (· exact .mk))
    | go_skip
    | ((with_reducible refine' Wl.out ?_; apply kg_load hS); iterate 2 (· exact .mk))
    | ((with_reducible refine' Wl.out ?_; apply kg_loads hS); iterate 2 (· exact .mk))
    | ((with_reducible refine' Wl.out ?_; refine' wg_case ?_ ?_) <;> (intro hgW; (try (have hg2 := hgW; simp [go_sem] at hg2)); (first | (exfalso; assumption) | ((with_reducible refine' Wl.out ?_; apply k_no hgW)) | ((with_reducible refine' Wl.out ?_; apply kg_load hS ⟨hgW⟩); (· exact .mk)) | ((with_reducible refine' Wl.out ?_; apply kg_loads hS ⟨hgW⟩); (· exact .mk))); clear hgW))
    | ((with_reducible refine' Wl.out ?_; apply k_stores hS); (· exact .mk); clear hS; intro ws hS))
              (first | (go_ret; exact ⟨rfl, hS.below⟩) | (go_ret; refine ⟨?_, hS.below⟩; simp; done))
end Go.Proofs.Ytlkdjmpkapeppaa
