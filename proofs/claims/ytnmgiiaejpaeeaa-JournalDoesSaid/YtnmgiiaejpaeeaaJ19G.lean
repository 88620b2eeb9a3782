/- Reading journals: contracts of the reference's Scan. -/
import Derived.Test.YtnmgiiaejpaeeaaG5
import Derived.Test.YtnmgiiaejpaeeaaJ16G
namespace Go.Proofs.Ytnmgiiaejpaeeaa
set_option linter.unusedVariables false
set_option linter.unusedSimpArgs false
open Go.RowKit Go.Shelf
set_option maxRecDepth 100000 in
set_option maxHeartbeats 8000000 in
theorem rjscan_c (m : Mem) (w : World) (hm : m.In w) (cs : List Value) (d : Dk) (hd : dkL.rd m cs d) (b s g : Int) :
    Calls Try.prog 57 #[.agg cs.toArray, .int .i64 b, .int .i64 s, .int .i64 g] w (RetTLE w m (scanT d b s g) (scanL d b s g) (scanE d b s g)) := by
  obtain ⟨p0, c0, q0, a0, rfl, A0⟩ := dkL_cells hd
  have HO := Lib.hid (show Octets d from octets_of hd)
  have hS := St.start hm
  clear hd
  by_cases hg : lgOK ⟨b, s, g, 0, 0⟩
  · have LE : Hid (lcheckE ⟨b, s, g, 0, 0⟩ = 0) := lcheck_zero.2 hg
    have LO : Hid (lopenG b s g = ⟨b, s, g, 0, 0⟩) := lopen_ok hg
    have HG := Lib.hid hg
    obtain ⟨g1, g2, g3, g4, g5, g6, _, _, _, _⟩ := hg
    simp only at g1 g2 g3 g4 g5 g6
    rcases hth : thereB d ⟨b, s, g, 0, 0⟩ with _ | _
    · have TB := Lib.hid hth
      have SE : Hid (scanE d b s g = 1) := by show _ = _; unfold scanE; rw [hth]; rfl
      clear hth
      go_enter Try.func57, Try.ntmps57
      go_wp2_with (first
    | ((with_reducible refine' Wl.out ?_; apply wl_box (ty := 44) (y := (.tmp 0)) hS); (· (first | (go_simp; done) | (go_simp; with_reducible rfl))); (· exact rfl); clear hS; intro w4 b4 hS)
    | ((with_reducible refine' Wl.out ?_; apply wl_alloc (ty := 70) (dst := some 9) hS (.agg #[.int .i64 0, .int .i64 0, .int .i64 0, .int .i64 0, .int .i64 0]) [.int .i64 0, .int .i64 0, .int .i64 0, .int .i64 0, .int .i64 0]); (· kernel_rfl); (· rfl); clear hS; intro w9 b9 hS)
    | ((with_reducible refine' Wl.out ?_; apply wl_alloc (ty := 70) (dst := some 11) hS (.agg #[.int .i64 0, .int .i64 0, .int .i64 0, .int .i64 0, .int .i64 0]) [.int .i64 0, .int .i64 0, .int .i64 0, .int .i64 0, .int .i64 0]); (· kernel_rfl); (· rfl); clear hS; intro w11 b11 hS)
    | ((with_reducible refine' Wl.out ?_; apply wl_load hS); (· (first | exact Try.underlying2 | exact Try.underlying3 | exact Try.underlying4)); (· exact rfl); (· exact rfl); (· (first | (apply Find.box; (· (repeat constructor)); rfl) | exact Find.mem (by assumption) | (apply Find.row; (· (repeat constructor)); assumption))))
    | ((with_reducible refine' Wl.out ?_; apply wg_load hS); (· (first | exact Try.underlying2 | exact Try.underlying3 | exact Try.underlying4)); (· exact rfl); (· (first | rfl | (go_simp; done))); (· exact rfl); (· (first | (apply Find.box; (· (repeat constructor)); rfl) | exact Find.mem (by assumption) | (apply Find.row; (· (repeat constructor)); assumption))))
    | ((with_reducible refine' Wl.out ?_; apply wl_loads hS); (· (first | exact rowT44 | exact rowT70)); (· exact rfl); (· (first | (apply Finds.box; (· (repeat constructor)); (· (repeat constructor)); done) | (refine Finds.mem2 (by assumption) ?_; first | rfl | assumption | (simp; done)) | (apply Finds.row; (· (repeat constructor)); (· assumption); (· rfl)))))
    | ((with_reducible refine' Wl.out ?_; apply wg_loads hS); (· (first | exact rowT44 | exact rowT70)); (· (first | rfl | (go_simp; done))); (· exact rfl); (· (first | (apply Finds.box; (· (repeat constructor)); (· (repeat constructor)); done) | (refine Finds.mem2 (by assumption) ?_; first | rfl | assumption | (simp; done)) | (apply Finds.row; (· (repeat constructor)); (· assumption); (· rfl)))))
    | ((with_reducible refine' Wl.out ?_); (with_reducible refine' wg_case ?_ ?_) <;> (intro hgW; (try (have hg2 := hgW; simp [go_sem] at hg2)); (first | (exfalso; assumption) | ((with_reducible refine' Wl.out ?_; apply wl_unwanted); (· exact hgW)) | ((with_reducible refine' Wl.out ?_; apply wg_load hS); (· (first | exact Try.underlying2 | exact Try.underlying3 | exact Try.underlying4)); (· exact rfl); (· exact hgW); (· exact rfl); (· (first | (apply Find.box; (· (repeat constructor)); rfl) | exact Find.mem (by assumption) | (apply Find.row; (· (repeat constructor)); assumption)))) | ((with_reducible refine' Wl.out ?_; apply wg_loads hS); (· (first | exact rowT44 | exact rowT70)); (· exact hgW); (· exact rfl); (· (first | (apply Finds.box; (· (repeat constructor)); (· (repeat constructor)); done) | (refine Finds.mem2 (by assumption) ?_; first | rfl | assumption | (simp; done)) | (apply Finds.row; (· (repeat constructor)); (· assumption); (· rfl)))))); clear hgW))
    | ((with_reducible refine' Wl.out ?_; apply wl_store hS); (· (first | exact rowT2 | exact rowT3)); (· exact rfl); (· (first | (go_simp; done) | (go_simp; with_reducible rfl))); (· (first | rfl | assumption | (simp [Value.oneCell']; done))); (· (repeat constructor)); (· (repeat constructor)); (· (repeat constructor)); clear hS; intro ws hS)
    | ((with_reducible refine' Wl.out ?_; apply wl_storeR hS); (· (first | exact rowT2 | exact rowT3)); (· exact rfl); (· (first | (go_simp; done) | (go_simp; with_reducible rfl))); (· (first | rfl | assumption | (simp [Value.oneCell']; done))); (· (repeat constructor)); (· (first | assumption | omega | (simp; omega))); clear hS; intro ws hS)
    | ((with_reducible refine' Wl.out ?_; apply wl_stores hS); (· (first | exact rowT70)); (· exact rfl); (· exact rfl); (· exact rfl); (· (first | assumption | (simp [Value.oneCell']; done))); (· (repeat constructor)); (· (repeat constructor)); (· (repeat constructor)); clear hS; intro ws hS)
    | (go_at_call 61; (fail_if_success (clear Mk21)); refine (letLE (rjopen_c _ _ hS.inw _ _ _)).mono ?_; rintro e' w21 ⟨_, m21, rfl, ⟨G21, E21, HG21, HE21, rfl⟩, hk⟩; replace hS := hS.call hk; (try replace A0 := Lib.hid (Lay.mono _ hk.le A0.out)); (try replace HC := Lib.hid (CellsOf.mono hk.le HC.out)); (try replace HC2 := Lib.hid (CellsOf.mono hk.le HC2.out)); clear hk; replace HE21 := Lib.hid (HE21.out.trans LE.out); obtain rfl := HE21.out; replace HG21 := Lib.hid (HG21.out.trans LO.out); obtain rfl := HG21.out; have Mk21 := True.intro)
    | (go_at_call 89; (fail_if_success (clear Mk29)); refine (letB (rthere_c _ _ hS.inw _ _ (by first | exact A0.out | exact dkL_dry A0.out | exact Lay.nil_rd _ _) _ _ _ _ _)).mono ?_; rintro e' w29 ⟨_, m29, rfl, ⟨B29, HB29, rfl⟩, hk⟩; replace hS := hS.call hk; (try replace A0 := Lib.hid (Lay.mono _ hk.le A0.out)); (try replace HC := Lib.hid (CellsOf.mono hk.le HC.out)); (try replace HC2 := Lib.hid (CellsOf.mono hk.le HC2.out)); clear hk; replace HB29 := Lib.hid (HB29.out.trans TB.out); obtain rfl := HB29.out; have Mk29 := True.intro))
      refine ret_tct (k := 5) rfl rfl hS (by (repeat constructor)) rfl lgRow rfl ?_
      rw [(scan_no (d := d) (b := b) (s := s) (g := g) (by rw [SE.out]; decide)).1, (scan_no (d := d) (b := b) (s := s) (g := g) (by rw [SE.out]; decide)).2, SE.out]
      exact ⟨_, _, rfl, ⟨_, rfl, Lay.nil_rd _ _⟩, hS.done⟩

    · have TB := Lib.hid hth
      have hok := of_decide_eq_true (show decide _ = true from hth)
      rcases hdd : d.dead with _ | _
      · have SE : Hid (scanE d b s g = 0) := by show _ = _; unfold scanE; rw [hth, hdd]; rfl
        have RE : Hid (readE d b = 0) := by
          show _ = _
          unfold readE
          rw [if_neg (by rw [alive_of_ok hok.1 hdd]; decide), if_neg]
          have := hok.2.2
          simp only at this
          unfold farD
          simp only [decide_eq_true_eq]
          omega
        rw [hdd] at A0
        clear hth hok
        go_enter Try.func57, Try.ntmps57
        go_wp2_with (first
    | ((with_reducible refine' Wl.out ?_; apply wl_box (ty := 44) (y := (.tmp 0)) hS); (· (first | (go_simp; done) | (go_simp; with_reducible rfl))); (· exact rfl); clear hS; intro w4 b4 hS)
    | ((with_reducible refine' Wl.out ?_; apply wl_alloc (ty := 70) (dst := some 9) hS (.agg #[.int .i64 0, .int .i64 0, .int .i64 0, .int .i64 0, .int .i64 0]) [.int .i64 0, .int .i64 0, .int .i64 0, .int .i64 0, .int .i64 0]); (· kernel_rfl); (· rfl); clear hS; intro w9 b9 hS)
    | ((with_reducible refine' Wl.out ?_; apply wl_alloc (ty := 70) (dst := some 11) hS (.agg #[.int .i64 0, .int .i64 0, .int .i64 0, .int .i64 0, .int .i64 0]) [.int .i64 0, .int .i64 0, .int .i64 0, .int .i64 0, .int .i64 0]); (· kernel_rfl); (· rfl); clear hS; intro w11 b11 hS)
    | ((with_reducible refine' Wl.out ?_; apply wl_load hS); (· (first | exact Try.underlying2 | exact Try.underlying3 | exact Try.underlying4)); (· exact rfl); (· exact rfl); (· (first | (apply Find.box; (· (repeat constructor)); rfl) | exact Find.mem (by assumption) | (apply Find.row; (· (repeat constructor)); assumption))))
    | ((with_reducible refine' Wl.out ?_; apply wg_load hS); (· (first | exact Try.underlying2 | exact Try.underlying3 | exact Try.underlying4)); (· exact rfl); (· (first | rfl | (go_simp; done))); (· exact rfl); (· (first | (apply Find.box; (· (repeat constructor)); rfl) | exact Find.mem (by assumption) | (apply Find.row; (· (repeat constructor)); assumption))))
    | ((with_reducible refine' Wl.out ?_; apply wl_loads hS); (· (first | exact rowT44 | exact rowT70)); (· exact rfl); (· (first | (apply Finds.box; (· (repeat constructor)); (· (repeat constructor)); done) | (refine Finds.mem2 (by assumption) ?_; first | rfl | assumption | (simp; done)) | (apply Finds.row; (· (repeat constructor)); (· assumption); (· rfl)))))
    | ((with_reducible refine' Wl.out ?_; apply wg_loads hS); (· (first | exact rowT44 | exact rowT70)); (· (first | rfl | (go_simp; done))); (· exact rfl); (· (first | (apply Finds.box; (· (repeat constructor)); (· (repeat constructor)); done) | (refine Finds.mem2 (by assumption) ?_; first | rfl | assumption | (simp; done)) | (apply Finds.row; (· (repeat constructor)); (· assumption); (· rfl)))))
    | ((with_reducible refine' Wl.out ?_); (with_reducible refine' wg_case ?_ ?_) <;> (intro hgW; (try (have hg2 := hgW; simp [go_sem] at hg2)); (first | (exfalso; assumption) | ((with_reducible refine' Wl.out ?_; apply wl_unwanted); (· exact hgW)) | ((with_reducible refine' Wl.out ?_; apply wg_load hS); (· (first | exact Try.underlying2 | exact Try.underlying3 | exact Try.underlying4)); (· exact rfl); (· exact hgW); (· exact rfl); (· (first | (apply Find.box; (· (repeat constructor)); rfl) | exact Find.mem (by assumption) | (apply Find.row; (· (repeat constructor)); assumption)))) | ((with_reducible refine' Wl.out ?_; apply wg_loads hS); (· (first | exact rowT44 | exact rowT70)); (· exact hgW); (· exact rfl); (· (first | (apply Finds.box; (· (repeat constructor)); (· (repeat constructor)); done) | (refine Finds.mem2 (by assumption) ?_; first | rfl | assumption | (simp; done)) | (apply Finds.row; (· (repeat constructor)); (· assumption); (· rfl)))))); clear hgW))
    | ((with_reducible refine' Wl.out ?_; apply wl_store hS); (· (first | exact rowT2 | exact rowT3)); (· exact rfl); (· (first | (go_simp; done) | (go_simp; with_reducible rfl))); (· (first | rfl | assumption | (simp [Value.oneCell']; done))); (· (repeat constructor)); (· (repeat constructor)); (· (repeat constructor)); clear hS; intro ws hS)
    | ((with_reducible refine' Wl.out ?_; apply wl_storeR hS); (· (first | exact rowT2 | exact rowT3)); (· exact rfl); (· (first | (go_simp; done) | (go_simp; with_reducible rfl))); (· (first | rfl | assumption | (simp [Value.oneCell']; done))); (· (repeat constructor)); (· (first | assumption | omega | (simp; omega))); clear hS; intro ws hS)
    | ((with_reducible refine' Wl.out ?_; apply wl_stores hS); (· (first | exact rowT70)); (· exact rfl); (· exact rfl); (· exact rfl); (· (first | assumption | (simp [Value.oneCell']; done))); (· (repeat constructor)); (· (repeat constructor)); (· (repeat constructor)); clear hS; intro ws hS)
    | (go_at_call 61; (fail_if_success (clear Mk21)); refine (letLE (rjopen_c _ _ hS.inw _ _ _)).mono ?_; rintro e' w21 ⟨_, m21, rfl, ⟨G21, E21, HG21, HE21, rfl⟩, hk⟩; replace hS := hS.call hk; (try replace A0 := Lib.hid (Lay.mono _ hk.le A0.out)); (try replace HC := Lib.hid (CellsOf.mono hk.le HC.out)); (try replace HC2 := Lib.hid (CellsOf.mono hk.le HC2.out)); clear hk; replace HE21 := Lib.hid (HE21.out.trans LE.out); obtain rfl := HE21.out; replace HG21 := Lib.hid (HG21.out.trans LO.out); obtain rfl := HG21.out; have Mk21 := True.intro)
    | (go_at_call 89; (fail_if_success (clear Mk29)); refine (letB (rthere_c _ _ hS.inw _ _ (by first | exact A0.out | exact dkL_dry A0.out | exact Lay.nil_rd _ _) _ _ _ _ _)).mono ?_; rintro e' w29 ⟨_, m29, rfl, ⟨B29, HB29, rfl⟩, hk⟩; replace hS := hS.call hk; (try replace A0 := Lib.hid (Lay.mono _ hk.le A0.out)); (try replace HC := Lib.hid (CellsOf.mono hk.le HC.out)); (try replace HC2 := Lib.hid (CellsOf.mono hk.le HC2.out)); clear hk; replace HB29 := Lib.hid (HB29.out.trans TB.out); obtain rfl := HB29.out; have Mk29 := True.intro))
        replace hS := hS.nilRow 22 1
        obtain ⟨R, hR⟩ : ∃ R, R = scanGo d b s g 4097 0 [] := ⟨_, rfl⟩
        have HR := Lib.hid hR
        clear hR
        go_loopw [13] (fun vl wr => ∃ (p : Int) (l : List (List Int)) (cells : List Value) (q : Option Addr) (c : Nat) (m' : Mem), vl = .slice q l.length c ∧ (0 ≤ p ∧ p ≤ s ∧ (l.length : Int) ≤ p) ∧ Hid (scanGo d b s g (4097 - l.length) p l = R) ∧ Hid (dkL.rd m' [.slice p0 d.dry.length c0, .slice q0 d.wet.length a0, .int .i64 d.fuse, .bool false] d) ∧ Hid (CellsOf bytesL m' cells l) ∧
          St [] w m wr [.row 22 1 (.slice q l.length c) l.length cells, .box b11 [.int .i64 b, .int .i64 s, .int .i64 g, .int .i64 p, .int .i64 l.length], .box b9 [.int .i64 0, .int .i64 0, .int .i64 0, .int .i64 0, .int .i64 0], .box b4 [.slice p0 d.dry.length c0, .slice q0 d.wet.length a0, .int .i64 d.fuse, .bool false]] m') (fun vl _ => 4097 - lenOf vl)
        case atStart => exact ⟨0, [], [], none, 0, _, rfl, ⟨by omega, by omega, by simp⟩, HR.out.symm, A0, Lib.hid (CellsOf.nil _ _), hS⟩
        case round =>
          clear hS A0
          obtain ⟨p, l, cells, q, c, m', rfl, ⟨p1, p2, p3⟩, HGO, A0, HC, hS⟩ := hrel
          have HGK := Lib.hid (show lgOK ⟨b, s, g, p, (l.length : Int)⟩ by simp only [lgOK]; omega)
          have hlt : (l.length : Int) < 262144 := by omega
          have hf : 4097 - l.length = (4096 - l.length) + 1 := by omega
          rcases hgr : groupR d ⟨b, s, g, p, (l.length : Int)⟩ with _ | ⟨t, k⟩
          · have hR : R = (l, p) := by rw [← HGO.out, hf]; exact scan_none hgr
            have HGR := Lib.hid hgr
            have HRR := Lib.hid hR
            clear hgr hR HGO
            go_wp2_with (first
    | ((with_reducible refine' Wl.out ?_; apply wl_box (ty := 44) (y := (.tmp 0)) hS); (· (first | (go_simp; done) | (go_simp; with_reducible rfl))); (· exact rfl); clear hS; intro w4 b4 hS)
    | ((with_reducible refine' Wl.out ?_; apply wl_alloc (ty := 70) (dst := some 9) hS (.agg #[.int .i64 0, .int .i64 0, .int .i64 0, .int .i64 0, .int .i64 0]) [.int .i64 0, .int .i64 0, .int .i64 0, .int .i64 0, .int .i64 0]); (· kernel_rfl); (· rfl); clear hS; intro w9 b9 hS)
    | ((with_reducible refine' Wl.out ?_; apply wl_alloc (ty := 70) (dst := some 11) hS (.agg #[.int .i64 0, .int .i64 0, .int .i64 0, .int .i64 0, .int .i64 0]) [.int .i64 0, .int .i64 0, .int .i64 0, .int .i64 0, .int .i64 0]); (· kernel_rfl); (· rfl); clear hS; intro w11 b11 hS)
    | ((with_reducible refine' Wl.out ?_; apply wl_load hS); (· (first | exact Try.underlying2 | exact Try.underlying3 | exact Try.underlying4)); (· exact rfl); (· exact rfl); (· (first | (apply Find.box; (· (repeat constructor)); rfl) | exact Find.mem (by assumption) | (apply Find.row; (· (repeat constructor)); assumption))))
    | ((with_reducible refine' Wl.out ?_; apply wg_load hS); (· (first | exact Try.underlying2 | exact Try.underlying3 | exact Try.underlying4)); (· exact rfl); (· (first | rfl | (go_simp; done))); (· exact rfl); (· (first | (apply Find.box; (· (repeat constructor)); rfl) | exact Find.mem (by assumption) | (apply Find.row; (· (repeat constructor)); assumption))))
    | ((with_reducible refine' Wl.out ?_; apply wl_loads hS); (· (first | exact rowT44 | exact rowT70)); (· exact rfl); (· (first | (apply Finds.box; (· (repeat constructor)); (· (repeat constructor)); done) | (refine Finds.mem2 (by assumption) ?_; first | rfl | assumption | (simp; done)) | (apply Finds.row; (· (repeat constructor)); (· assumption); (· rfl)))))
    | ((with_reducible refine' Wl.out ?_; apply wg_loads hS); (· (first | exact rowT44 | exact rowT70)); (· (first | rfl | (go_simp; done))); (· exact rfl); (· (first | (apply Finds.box; (· (repeat constructor)); (· (repeat constructor)); done) | (refine Finds.mem2 (by assumption) ?_; first | rfl | assumption | (simp; done)) | (apply Finds.row; (· (repeat constructor)); (· assumption); (· rfl)))))
    | ((with_reducible refine' Wl.out ?_); (with_reducible refine' wg_case ?_ ?_) <;> (intro hgW; (try (have hg2 := hgW; simp [go_sem] at hg2)); (first | (exfalso; assumption) | ((with_reducible refine' Wl.out ?_; apply wl_unwanted); (· exact hgW)) | ((with_reducible refine' Wl.out ?_; apply wg_load hS); (· (first | exact Try.underlying2 | exact Try.underlying3 | exact Try.underlying4)); (· exact rfl); (· exact hgW); (· exact rfl); (· (first | (apply Find.box; (· (repeat constructor)); rfl) | exact Find.mem (by assumption) | (apply Find.row; (· (repeat constructor)); assumption)))) | ((with_reducible refine' Wl.out ?_; apply wg_loads hS); (· (first | exact rowT44 | exact rowT70)); (· exact hgW); (· exact rfl); (· (first | (apply Finds.box; (· (repeat constructor)); (· (repeat constructor)); done) | (refine Finds.mem2 (by assumption) ?_; first | rfl | assumption | (simp; done)) | (apply Finds.row; (· (repeat constructor)); (· assumption); (· rfl)))))); clear hgW))
    | ((with_reducible refine' Wl.out ?_; apply wl_store hS); (· (first | exact rowT2 | exact rowT3)); (· exact rfl); (· (first | (go_simp; done) | (go_simp; with_reducible rfl))); (· (first | rfl | assumption | (simp [Value.oneCell']; done))); (· (repeat constructor)); (· (repeat constructor)); (· (repeat constructor)); clear hS; intro ws hS)
    | ((with_reducible refine' Wl.out ?_; apply wl_storeR hS); (· (first | exact rowT2 | exact rowT3)); (· exact rfl); (· (first | (go_simp; done) | (go_simp; with_reducible rfl))); (· (first | rfl | assumption | (simp [Value.oneCell']; done))); (· (repeat constructor)); (· (first | assumption | omega | (simp; omega))); clear hS; intro ws hS)
    | ((with_reducible refine' Wl.out ?_; apply wl_stores hS); (· (first | exact rowT70)); (· exact rfl); (· exact rfl); (· exact rfl); (· (first | assumption | (simp [Value.oneCell']; done))); (· (repeat constructor)); (· (repeat constructor)); (· (repeat constructor)); clear hS; intro ws hS)
              | (go_at_call 92; refine (rjgroup_c _ _ hS.inw _ _ A0.out _ _ _ _ _ HGK.out).mono ?_; rw [HGR.out]; rintro e' w50 ⟨_, m50, rfl, ⟨q50, n50, c50, k50, rfl⟩, hk⟩; replace hS := hS.call hk; replace A0 := Lib.hid (Lay.mono _ hk.le A0.out); replace HC := Lib.hid (CellsOf.mono hk.le HC.out); clear hk))
            replace hS := hS.drew
            refine startL (S := Sx _ [(b11, _)]) (by kernel_rfl) (hS.sx0.cons hS (by (repeat constructor))) (fun _ _ _ _ => trivial) (fun hHeld => ?_)
            focus (refine takeN 0 (v := ?_) rfl (by kernel_rfl) ?_ ?_; rotate_left; focus (intro w hSw; clear hSw; go_simp; try with_reducible rfl))
            try simp only [Act.put, nz1, nz2, nz3]
            refine takeN 1 rfl (by kernel_rfl) (yield_loads rfl rowT70 rfl (by (first | (apply FindsX.box; (· (repeat constructor)); (· (repeat constructor)); done) | (refine FindsX.mem (by assumption) ?_; first | rfl | assumption | (simp; done))))) ?_
            try simp only [Act.put, nz1, nz2, nz3]
            focus (refine takeN 2 (v := ?_) rfl (by kernel_rfl) ?_ ?_; rotate_left; focus (intro w hSw; clear hSw; go_simp; try with_reducible rfl))
            try simp only [Act.put, nz1, nz2, nz3]
            refine wpAnyH_ready (rs := [3]) (by kernel_rfl) (by simp) ?_
            refine consL 3 rfl (fun K hK => ?_) AllReadyH.nil
            (with_reducible apply s_stores hS); (· exact rowT70); (· exact rfl); (· exact rfl); (· exact rfl); (· (first | assumption | (simp [Value.oneCell']; done))); (· (repeat constructor)); (· (repeat constructor)); (· (repeat constructor)); clear hS; intro ws hS
            refine hK.out _ _ (by first | exact (hS.sx0.cons hS (by (repeat constructor))) | exact Sx.le (by assumption) (hS.sx0.cons hS (by (repeat constructor)))) (fun hHeld => ?_)
            clear hK K
            try simp only [Act.put, nz1, nz2, nz3]
            focus (refine takeN 4 (v := ?_) rfl (by kernel_rfl) ?_ ?_; rotate_left; focus (intro w hSw; clear hSw; go_simp; try with_reducible rfl))
            try simp only [Act.put, nz1, nz2, nz3]
            refine wpAnyH_done (by kernel_rfl) ?_ _
            refine NoPanic.normal ?_
            all_goals
              go_wp2_with (first
    | ((with_reducible refine' Wl.out ?_; apply wl_box (ty := 44) (y := (.tmp 0)) hS); (· (first | (go_simp; done) | (go_simp; with_reducible rfl))); (· exact rfl); clear hS; intro w4 b4 hS)
    | ((with_reducible refine' Wl.out ?_; apply wl_alloc (ty := 70) (dst := some 9) hS (.agg #[.int .i64 0, .int .i64 0, .int .i64 0, .int .i64 0, .int .i64 0]) [.int .i64 0, .int .i64 0, .int .i64 0, .int .i64 0, .int .i64 0]); (· kernel_rfl); (· rfl); clear hS; intro w9 b9 hS)
    | ((with_reducible refine' Wl.out ?_; apply wl_alloc (ty := 70) (dst := some 11) hS (.agg #[.int .i64 0, .int .i64 0, .int .i64 0, .int .i64 0, .int .i64 0]) [.int .i64 0, .int .i64 0, .int .i64 0, .int .i64 0, .int .i64 0]); (· kernel_rfl); (· rfl); clear hS; intro w11 b11 hS)
    | ((with_reducible refine' Wl.out ?_; apply wl_load hS); (· (first | exact Try.underlying2 | exact Try.underlying3 | exact Try.underlying4)); (· exact rfl); (· exact rfl); (· (first | (apply Find.box; (· (repeat constructor)); rfl) | exact Find.mem (by assumption) | (apply Find.row; (· (repeat constructor)); assumption))))
    | ((with_reducible refine' Wl.out ?_; apply wg_load hS); (· (first | exact Try.underlying2 | exact Try.underlying3 | exact Try.underlying4)); (· exact rfl); (· (first | rfl | (go_simp; done))); (· exact rfl); (· (first | (apply Find.box; (· (repeat constructor)); rfl) | exact Find.mem (by assumption) | (apply Find.row; (· (repeat constructor)); assumption))))
    | ((with_reducible refine' Wl.out ?_; apply wl_loads hS); (· (first | exact rowT44 | exact rowT70)); (· exact rfl); (· (first | (apply Finds.box; (· (repeat constructor)); (· (repeat constructor)); done) | (refine Finds.mem2 (by assumption) ?_; first | rfl | assumption | (simp; done)) | (apply Finds.row; (· (repeat constructor)); (· assumption); (· rfl)))))
    | ((with_reducible refine' Wl.out ?_; apply wg_loads hS); (· (first | exact rowT44 | exact rowT70)); (· (first | rfl | (go_simp; done))); (· exact rfl); (· (first | (apply Finds.box; (· (repeat constructor)); (· (repeat constructor)); done) | (refine Finds.mem2 (by assumption) ?_; first | rfl | assumption | (simp; done)) | (apply Finds.row; (· (repeat constructor)); (· assumption); (· rfl)))))
    | ((with_reducible refine' Wl.out ?_); (with_reducible refine' wg_case ?_ ?_) <;> (intro hgW; (try (have hg2 := hgW; simp [go_sem] at hg2)); (first | (exfalso; assumption) | ((with_reducible refine' Wl.out ?_; apply wl_unwanted); (· exact hgW)) | ((with_reducible refine' Wl.out ?_; apply wg_load hS); (· (first | exact Try.underlying2 | exact Try.underlying3 | exact Try.underlying4)); (· exact rfl); (· exact hgW); (· exact rfl); (· (first | (apply Find.box; (· (repeat constructor)); rfl) | exact Find.mem (by assumption) | (apply Find.row; (· (repeat constructor)); assumption)))) | ((with_reducible refine' Wl.out ?_; apply wg_loads hS); (· (first | exact rowT44 | exact rowT70)); (· exact hgW); (· exact rfl); (· (first | (apply Finds.box; (· (repeat constructor)); (· (repeat constructor)); done) | (refine Finds.mem2 (by assumption) ?_; first | rfl | assumption | (simp; done)) | (apply Finds.row; (· (repeat constructor)); (· assumption); (· rfl)))))); clear hgW))
    | ((with_reducible refine' Wl.out ?_; apply wl_store hS); (· (first | exact rowT2 | exact rowT3)); (· exact rfl); (· (first | (go_simp; done) | (go_simp; with_reducible rfl))); (· (first | rfl | assumption | (simp [Value.oneCell']; done))); (· (repeat constructor)); (· (repeat constructor)); (· (repeat constructor)); clear hS; intro ws hS)
    | ((with_reducible refine' Wl.out ?_; apply wl_storeR hS); (· (first | exact rowT2 | exact rowT3)); (· exact rfl); (· (first | (go_simp; done) | (go_simp; with_reducible rfl))); (· (first | rfl | assumption | (simp [Value.oneCell']; done))); (· (repeat constructor)); (· (first | assumption | omega | (simp; omega))); clear hS; intro ws hS)
    | ((with_reducible refine' Wl.out ?_; apply wl_stores hS); (· (first | exact rowT70)); (· exact rfl); (· exact rfl); (· exact rfl); (· (first | assumption | (simp [Value.oneCell']; done))); (· (repeat constructor)); (· (repeat constructor)); (· (repeat constructor)); clear hS; intro ws hS))
              obtain ⟨m7, hS7, hle7, hrd⟩ := hS.settleRow' (L := bytesL) (xs := l) 0 rfl rfl HC.out (by simp [Lay.list]; omega)
              simp only [List.eraseIdx_cons_zero] at hS7
              have hyes := scan_yes SE.out (HR.out.symm.trans HRR.out)
              refine ret_tct (k := 5) rfl rfl hS7 (by (repeat constructor)) rfl lgRow rfl ?_
              rw [hyes.1, hyes.2, SE.out]
              exact ⟨_, _, rfl, ⟨_, rfl, hrd⟩, hS7.done⟩
          · have hsp := groupR_span HO.out hgr
            simp only at hsp
            obtain ⟨k1, k2⟩ := hsp
            have hR : scanGo d b s g (4097 - (l ++ [t]).length) (p + k) (l ++ [t]) = R := by rw [← HGO.out, hf, scan_some hgr, show 4097 - (l ++ [t]).length = 4096 - l.length by first | (simp; done) | (simp; omega)]
            have HGR := Lib.hid hgr
            have HRR := Lib.hid hR
            clear hgr hR HGO
            go_wp2_with (first
    | ((with_reducible refine' Wl.out ?_; apply wl_box (ty := 44) (y := (.tmp 0)) hS); (· (first | (go_simp; done) | (go_simp; with_reducible rfl))); (· exact rfl); clear hS; intro w4 b4 hS)
    | ((with_reducible refine' Wl.out ?_; apply wl_alloc (ty := 70) (dst := some 9) hS (.agg #[.int .i64 0, .int .i64 0, .int .i64 0, .int .i64 0, .int .i64 0]) [.int .i64 0, .int .i64 0, .int .i64 0, .int .i64 0, .int .i64 0]); (· kernel_rfl); (· rfl); clear hS; intro w9 b9 hS)
    | ((with_reducible refine' Wl.out ?_; apply wl_alloc (ty := 70) (dst := some 11) hS (.agg #[.int .i64 0, .int .i64 0, .int .i64 0, .int .i64 0, .int .i64 0]) [.int .i64 0, .int .i64 0, .int .i64 0, .int .i64 0, .int .i64 0]); (· kernel_rfl); (· rfl); clear hS; intro w11 b11 hS)
    | ((with_reducible refine' Wl.out ?_; apply wl_load hS); (· (first | exact Try.underlying2 | exact Try.underlying3 | exact Try.underlying4)); (· exact rfl); (· exact rfl); (· (first | (apply Find.box; (· (repeat constructor)); rfl) | exact Find.mem (by assumption) | (apply Find.row; (· (repeat constructor)); assumption))))
    | ((with_reducible refine' Wl.out ?_; apply wg_load hS); (· (first | exact Try.underlying2 | exact Try.underlying3 | exact Try.underlying4)); (· exact rfl); (· (first | rfl | (go_simp; done))); (· exact rfl); (· (first | (apply Find.box; (· (repeat constructor)); rfl) | exact Find.mem (by assumption) | (apply Find.row; (· (repeat constructor)); assumption))))
    | ((with_reducible refine' Wl.out ?_; apply wl_loads hS); (· (first | exact rowT44 | exact rowT70)); (· exact rfl); (· (first | (apply Finds.box; (· (repeat constructor)); (· (repeat constructor)); done) | (refine Finds.mem2 (by assumption) ?_; first | rfl | assumption | (simp; done)) | (apply Finds.row; (· (repeat constructor)); (· assumption); (· rfl)))))
    | ((with_reducible refine' Wl.out ?_; apply wg_loads hS); (· (first | exact rowT44 | exact rowT70)); (· (first | rfl | (go_simp; done))); (· exact rfl); (· (first | (apply Finds.box; (· (repeat constructor)); (· (repeat constructor)); done) | (refine Finds.mem2 (by assumption) ?_; first | rfl | assumption | (simp; done)) | (apply Finds.row; (· (repeat constructor)); (· assumption); (· rfl)))))
    | ((with_reducible refine' Wl.out ?_); (with_reducible refine' wg_case ?_ ?_) <;> (intro hgW; (try (have hg2 := hgW; simp [go_sem] at hg2)); (first | (exfalso; assumption) | ((with_reducible refine' Wl.out ?_; apply wl_unwanted); (· exact hgW)) | ((with_reducible refine' Wl.out ?_; apply wg_load hS); (· (first | exact Try.underlying2 | exact Try.underlying3 | exact Try.underlying4)); (· exact rfl); (· exact hgW); (· exact rfl); (· (first | (apply Find.box; (· (repeat constructor)); rfl) | exact Find.mem (by assumption) | (apply Find.row; (· (repeat constructor)); assumption)))) | ((with_reducible refine' Wl.out ?_; apply wg_loads hS); (· (first | exact rowT44 | exact rowT70)); (· exact hgW); (· exact rfl); (· (first | (apply Finds.box; (· (repeat constructor)); (· (repeat constructor)); done) | (refine Finds.mem2 (by assumption) ?_; first | rfl | assumption | (simp; done)) | (apply Finds.row; (· (repeat constructor)); (· assumption); (· rfl)))))); clear hgW))
    | ((with_reducible refine' Wl.out ?_; apply wl_store hS); (· (first | exact rowT2 | exact rowT3)); (· exact rfl); (· (first | (go_simp; done) | (go_simp; with_reducible rfl))); (· (first | rfl | assumption | (simp [Value.oneCell']; done))); (· (repeat constructor)); (· (repeat constructor)); (· (repeat constructor)); clear hS; intro ws hS)
    | ((with_reducible refine' Wl.out ?_; apply wl_storeR hS); (· (first | exact rowT2 | exact rowT3)); (· exact rfl); (· (first | (go_simp; done) | (go_simp; with_reducible rfl))); (· (first | rfl | assumption | (simp [Value.oneCell']; done))); (· (repeat constructor)); (· (first | assumption | omega | (simp; omega))); clear hS; intro ws hS)
    | ((with_reducible refine' Wl.out ?_; apply wl_stores hS); (· (first | exact rowT70)); (· exact rfl); (· exact rfl); (· exact rfl); (· (first | assumption | (simp [Value.oneCell']; done))); (· (repeat constructor)); (· (repeat constructor)); (· (repeat constructor)); clear hS; intro ws hS)
              | (go_at_call 92; refine (rjgroup_c _ _ hS.inw _ _ A0.out _ _ _ _ _ HGK.out).mono ?_; rw [HGR.out]; rintro e' w50 ⟨_, m50, rfl, ⟨q50, c50, rfl, RG⟩, hk⟩; replace hS := hS.call hk; replace A0 := Lib.hid (Lay.mono _ hk.le A0.out); replace HC := Lib.hid (CellsOf.mono hk.le HC.out); clear hk)
              | ((with_reducible refine' Wl.out ?_; apply wl_litO el_bytes hS); (· (first | (go_simp; done) | (go_simp; with_reducible rfl))); (· rfl); clear hS; intro w59 b59 hS)
              | ((with_reducible refine' Wl.out ?_; apply wl_appendB el_bytes hS (by decide)); (· exact rfl); (· (repeat constructor)); (· exact rfl); (· (repeat constructor)); (· rfl); (· simp [Value.oneCell']); (· omega); clear hS; intro w60 q60 c60 hS))
            have hlen : l.length + 1 = (l ++ [t]).length := by simp
            have hlen2 : (l.length : Int) + 1 = ((l ++ [t]).length : Int) := by simp
            rw [hlen, hlen2] at hS
            rw [hlen]
            have HC2 := Lib.hid (HC.out.snoc RG.out)
            dsimp only [Act.put]
            go_roundw
            case rel => exact ⟨p + k, l ++ [t], _, q60, c60, _, rfl, ⟨by omega, by omega, by simp; omega⟩, HRR, A0, HC2, hS.forget (x := .box b59 _) (by (repeat constructor))⟩
            case measure => simp [lenOf]; omega
      · have SE : Hid (scanE d b s g = 11) := by show _ = _; unfold scanE; rw [hth, hdd]; rfl
        have RE : Hid (readE d b = 11) := by
          show _ = _
          have ha : aliveE d = 11 := by unfold aliveE; rw [if_pos hok.1, hdd]; rfl
          unfold readE
          rw [if_pos (by rw [ha]; decide), ha]
        rw [hdd] at A0
        clear hth hok
        go_enter Try.func57, Try.ntmps57
        go_wp2_with (first
    | ((with_reducible refine' Wl.out ?_; apply wl_box (ty := 44) (y := (.tmp 0)) hS); (· (first | (go_simp; done) | (go_simp; with_reducible rfl))); (· exact rfl); clear hS; intro w4 b4 hS)
    | ((with_reducible refine' Wl.out ?_; apply wl_alloc (ty := 70) (dst := some 9) hS (.agg #[.int .i64 0, .int .i64 0, .int .i64 0, .int .i64 0, .int .i64 0]) [.int .i64 0, .int .i64 0, .int .i64 0, .int .i64 0, .int .i64 0]); (· kernel_rfl); (· rfl); clear hS; intro w9 b9 hS)
    | ((with_reducible refine' Wl.out ?_; apply wl_alloc (ty := 70) (dst := some 11) hS (.agg #[.int .i64 0, .int .i64 0, .int .i64 0, .int .i64 0, .int .i64 0]) [.int .i64 0, .int .i64 0, .int .i64 0, .int .i64 0, .int .i64 0]); (· kernel_rfl); (· rfl); clear hS; intro w11 b11 hS)
    | ((with_reducible refine' Wl.out ?_; apply wl_load hS); (· (first | exact Try.underlying2 | exact Try.underlying3 | exact Try.underlying4)); (· exact rfl); (· exact rfl); (· (first | (apply Find.box; (· (repeat constructor)); rfl) | exact Find.mem (by assumption) | (apply Find.row; (· (repeat constructor)); assumption))))
    | ((with_reducible refine' Wl.out ?_; apply wg_load hS); (· (first | exact Try.underlying2 | exact Try.underlying3 | exact Try.underlying4)); (· exact rfl); (· (first | rfl | (go_simp; done))); (· exact rfl); (· (first | (apply Find.box; (· (repeat constructor)); rfl) | exact Find.mem (by assumption) | (apply Find.row; (· (repeat constructor)); assumption))))
    | ((with_reducible refine' Wl.out ?_; apply wl_loads hS); (· (first | exact rowT44 | exact rowT70)); (· exact rfl); (· (first | (apply Finds.box; (· (repeat constructor)); (· (repeat constructor)); done) | (refine Finds.mem2 (by assumption) ?_; first | rfl | assumption | (simp; done)) | (apply Finds.row; (· (repeat constructor)); (· assumption); (· rfl)))))
    | ((with_reducible refine' Wl.out ?_; apply wg_loads hS); (· (first | exact rowT44 | exact rowT70)); (· (first | rfl | (go_simp; done))); (· exact rfl); (· (first | (apply Finds.box; (· (repeat constructor)); (· (repeat constructor)); done) | (refine Finds.mem2 (by assumption) ?_; first | rfl | assumption | (simp; done)) | (apply Finds.row; (· (repeat constructor)); (· assumption); (· rfl)))))
    | ((with_reducible refine' Wl.out ?_); (with_reducible refine' wg_case ?_ ?_) <;> (intro hgW; (try (have hg2 := hgW; simp [go_sem] at hg2)); (first | (exfalso; assumption) | ((with_reducible refine' Wl.out ?_; apply wl_unwanted); (· exact hgW)) | ((with_reducible refine' Wl.out ?_; apply wg_load hS); (· (first | exact Try.underlying2 | exact Try.underlying3 | exact Try.underlying4)); (· exact rfl); (· exact hgW); (· exact rfl); (· (first | (apply Find.box; (· (repeat constructor)); rfl) | exact Find.mem (by assumption) | (apply Find.row; (· (repeat constructor)); assumption)))) | ((with_reducible refine' Wl.out ?_; apply wg_loads hS); (· (first | exact rowT44 | exact rowT70)); (· exact hgW); (· exact rfl); (· (first | (apply Finds.box; (· (repeat constructor)); (· (repeat constructor)); done) | (refine Finds.mem2 (by assumption) ?_; first | rfl | assumption | (simp; done)) | (apply Finds.row; (· (repeat constructor)); (· assumption); (· rfl)))))); clear hgW))
    | ((with_reducible refine' Wl.out ?_; apply wl_store hS); (· (first | exact rowT2 | exact rowT3)); (· exact rfl); (· (first | (go_simp; done) | (go_simp; with_reducible rfl))); (· (first | rfl | assumption | (simp [Value.oneCell']; done))); (· (repeat constructor)); (· (repeat constructor)); (· (repeat constructor)); clear hS; intro ws hS)
    | ((with_reducible refine' Wl.out ?_; apply wl_storeR hS); (· (first | exact rowT2 | exact rowT3)); (· exact rfl); (· (first | (go_simp; done) | (go_simp; with_reducible rfl))); (· (first | rfl | assumption | (simp [Value.oneCell']; done))); (· (repeat constructor)); (· (first | assumption | omega | (simp; omega))); clear hS; intro ws hS)
    | ((with_reducible refine' Wl.out ?_; apply wl_stores hS); (· (first | exact rowT70)); (· exact rfl); (· exact rfl); (· exact rfl); (· (first | assumption | (simp [Value.oneCell']; done))); (· (repeat constructor)); (· (repeat constructor)); (· (repeat constructor)); clear hS; intro ws hS)
    | (go_at_call 61; (fail_if_success (clear Mk21)); refine (letLE (rjopen_c _ _ hS.inw _ _ _)).mono ?_; rintro e' w21 ⟨_, m21, rfl, ⟨G21, E21, HG21, HE21, rfl⟩, hk⟩; replace hS := hS.call hk; (try replace A0 := Lib.hid (Lay.mono _ hk.le A0.out)); (try replace HC := Lib.hid (CellsOf.mono hk.le HC.out)); (try replace HC2 := Lib.hid (CellsOf.mono hk.le HC2.out)); clear hk; replace HE21 := Lib.hid (HE21.out.trans LE.out); obtain rfl := HE21.out; replace HG21 := Lib.hid (HG21.out.trans LO.out); obtain rfl := HG21.out; have Mk21 := True.intro)
    | (go_at_call 89; (fail_if_success (clear Mk29)); refine (letB (rthere_c _ _ hS.inw _ _ (by first | exact A0.out | exact dkL_dry A0.out | exact Lay.nil_rd _ _) _ _ _ _ _)).mono ?_; rintro e' w29 ⟨_, m29, rfl, ⟨B29, HB29, rfl⟩, hk⟩; replace hS := hS.call hk; (try replace A0 := Lib.hid (Lay.mono _ hk.le A0.out)); (try replace HC := Lib.hid (CellsOf.mono hk.le HC.out)); (try replace HC2 := Lib.hid (CellsOf.mono hk.le HC2.out)); clear hk; replace HB29 := Lib.hid (HB29.out.trans TB.out); obtain rfl := HB29.out; have Mk29 := True.intro))
        refine ret_tct (k := 5) rfl rfl hS (by (repeat constructor)) rfl lgRow rfl ?_
        rw [(scan_no (d := d) (b := b) (s := s) (g := g) (by rw [SE.out]; decide)).1, (scan_no (d := d) (b := b) (s := s) (g := g) (by rw [SE.out]; decide)).2, SE.out]
        exact ⟨_, _, rfl, ⟨_, rfl, Lay.nil_rd _ _⟩, hS.done⟩

  · have LE : Hid (lcheckE ⟨b, s, g, 0, 0⟩ = 1) := if_neg hg
    have LO : Hid (lopenG b s g = lg0) := lopen_no hg
    have SE : Hid (scanE d b s g = 1) := by
      show _ = _
      unfold scanE
      rw [show thereB d ⟨b, s, g, 0, 0⟩ = false from decide_eq_false fun hh => hg hh.2.1]; rfl
    have TB : Hid (thereB d ⟨b, s, g, 0, 0⟩ = false) := decide_eq_false fun hh => hg hh.2.1
    clear hg
    go_enter Try.func57, Try.ntmps57
    go_wp2_with (first
    | ((with_reducible refine' Wl.out ?_; apply wl_box (ty := 44) (y := (.tmp 0)) hS); (· (first | (go_simp; done) | (go_simp; with_reducible rfl))); (· exact rfl); clear hS; intro w4 b4 hS)
    | ((with_reducible refine' Wl.out ?_; apply wl_alloc (ty := 70) (dst := some 9) hS (.agg #[.int .i64 0, .int .i64 0, .int .i64 0, .int .i64 0, .int .i64 0]) [.int .i64 0, .int .i64 0, .int .i64 0, .int .i64 0, .int .i64 0]); (· kernel_rfl); (· rfl); clear hS; intro w9 b9 hS)
    | ((with_reducible refine' Wl.out ?_; apply wl_alloc (ty := 70) (dst := some 11) hS (.agg #[.int .i64 0, .int .i64 0, .int .i64 0, .int .i64 0, .int .i64 0]) [.int .i64 0, .int .i64 0, .int .i64 0, .int .i64 0, .int .i64 0]); (· kernel_rfl); (· rfl); clear hS; intro w11 b11 hS)
    | ((with_reducible refine' Wl.out ?_; apply wl_load hS); (· (first | exact Try.underlying2 | exact Try.underlying3 | exact Try.underlying4)); (· exact rfl); (· exact rfl); (· (first | (apply Find.box; (· (repeat constructor)); rfl) | exact Find.mem (by assumption) | (apply Find.row; (· (repeat constructor)); assumption))))
    | ((with_reducible refine' Wl.out ?_; apply wg_load hS); (· (first | exact Try.underlying2 | exact Try.underlying3 | exact Try.underlying4)); (· exact rfl); (· (first | rfl | (go_simp; done))); (· exact rfl); (· (first | (apply Find.box; (· (repeat constructor)); rfl) | exact Find.mem (by assumption) | (apply Find.row; (· (repeat constructor)); assumption))))
    | ((with_reducible refine' Wl.out ?_; apply wl_loads hS); (· (first | exact rowT44 | exact rowT70)); (· exact rfl); (· (first | (apply Finds.box; (· (repeat constructor)); (· (repeat constructor)); done) | (refine Finds.mem2 (by assumption) ?_; first | rfl | assumption | (simp; done)) | (apply Finds.row; (· (repeat constructor)); (· assumption); (· rfl)))))
    | ((with_reducible refine' Wl.out ?_; apply wg_loads hS); (· (first | exact rowT44 | exact rowT70)); (· (first | rfl | (go_simp; done))); (· exact rfl); (· (first | (apply Finds.box; (· (repeat constructor)); (· (repeat constructor)); done) | (refine Finds.mem2 (by assumption) ?_; first | rfl | assumption | (simp; done)) | (apply Finds.row; (· (repeat constructor)); (· assumption); (· rfl)))))
    | ((with_reducible refine' Wl.out ?_); (with_reducible refine' wg_case ?_ ?_) <;> (intro hgW; (try (have hg2 := hgW; simp [go_sem] at hg2)); (first | (exfalso; assumption) | ((with_reducible refine' Wl.out ?_; apply wl_unwanted); (· exact hgW)) | ((with_reducible refine' Wl.out ?_; apply wg_load hS); (· (first | exact Try.underlying2 | exact Try.underlying3 | exact Try.underlying4)); (· exact rfl); (· exact hgW); (· exact rfl); (· (first | (apply Find.box; (· (repeat constructor)); rfl) | exact Find.mem (by assumption) | (apply Find.row; (· (repeat constructor)); assumption)))) | ((with_reducible refine' Wl.out ?_; apply wg_loads hS); (· (first | exact rowT44 | exact rowT70)); (· exact hgW); (· exact rfl); (· (first | (apply Finds.box; (· (repeat constructor)); (· (repeat constructor)); done) | (refine Finds.mem2 (by assumption) ?_; first | rfl | assumption | (simp; done)) | (apply Finds.row; (· (repeat constructor)); (· assumption); (· rfl)))))); clear hgW))
    | ((with_reducible refine' Wl.out ?_; apply wl_store hS); (· (first | exact rowT2 | exact rowT3)); (· exact rfl); (· (first | (go_simp; done) | (go_simp; with_reducible rfl))); (· (first | rfl | assumption | (simp [Value.oneCell']; done))); (· (repeat constructor)); (· (repeat constructor)); (· (repeat constructor)); clear hS; intro ws hS)
    | ((with_reducible refine' Wl.out ?_; apply wl_storeR hS); (· (first | exact rowT2 | exact rowT3)); (· exact rfl); (· (first | (go_simp; done) | (go_simp; with_reducible rfl))); (· (first | rfl | assumption | (simp [Value.oneCell']; done))); (· (repeat constructor)); (· (first | assumption | omega | (simp; omega))); clear hS; intro ws hS)
    | ((with_reducible refine' Wl.out ?_; apply wl_stores hS); (· (first | exact rowT70)); (· exact rfl); (· exact rfl); (· exact rfl); (· (first | assumption | (simp [Value.oneCell']; done))); (· (repeat constructor)); (· (repeat constructor)); (· (repeat constructor)); clear hS; intro ws hS)
    | (go_at_call 61; (fail_if_success (clear Mk21)); refine (letLE (rjopen_c _ _ hS.inw _ _ _)).mono ?_; rintro e' w21 ⟨_, m21, rfl, ⟨G21, E21, HG21, HE21, rfl⟩, hk⟩; replace hS := hS.call hk; (try replace A0 := Lib.hid (Lay.mono _ hk.le A0.out)); (try replace HC := Lib.hid (CellsOf.mono hk.le HC.out)); (try replace HC2 := Lib.hid (CellsOf.mono hk.le HC2.out)); clear hk; replace HE21 := Lib.hid (HE21.out.trans LE.out); obtain rfl := HE21.out; replace HG21 := Lib.hid (HG21.out.trans LO.out); obtain rfl := HG21.out; have Mk21 := True.intro)
    | (go_at_call 89; (fail_if_success (clear Mk29)); refine (letB (rthere_c _ _ hS.inw _ _ (by first | exact A0.out | exact dkL_dry A0.out | exact Lay.nil_rd _ _) _ _ _ _ _)).mono ?_; rintro e' w29 ⟨_, m29, rfl, ⟨B29, HB29, rfl⟩, hk⟩; replace hS := hS.call hk; (try replace A0 := Lib.hid (Lay.mono _ hk.le A0.out)); (try replace HC := Lib.hid (CellsOf.mono hk.le HC.out)); (try replace HC2 := Lib.hid (CellsOf.mono hk.le HC2.out)); clear hk; replace HB29 := Lib.hid (HB29.out.trans TB.out); obtain rfl := HB29.out; have Mk29 := True.intro))
    refine ret_tct (k := 5) rfl rfl hS (by (repeat constructor)) rfl lgRow rfl ?_
    rw [(scan_no (d := d) (b := b) (s := s) (g := g) (by rw [SE.out]; decide)).1, (scan_no (d := d) (b := b) (s := s) (g := g) (by rw [SE.out]; decide)).2, SE.out]
    exact ⟨_, _, rfl, ⟨_, rfl, Lay.nil_rd _ _⟩, hS.done⟩

end Go.Proofs.Ytnmgiiaejpaeeaa
