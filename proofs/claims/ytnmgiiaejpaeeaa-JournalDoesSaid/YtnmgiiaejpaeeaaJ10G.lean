/- Contract of the reference's Append. -/
import Derived.Test.YtnmgiiaejpaeeaaG4
namespace Go.Proofs.Ytnmgiiaejpaeeaa
set_option linter.unusedVariables false
set_option linter.unusedSimpArgs false
open Go.RowKit Go.Shelf
set_option maxRecDepth 100000 in
set_option maxHeartbeats 8000000 in
theorem rjappend_no (m : Mem) (w : World) (hm : m.In w) (cs : List Value) (d : Dk) (hd : dkL.rd m cs d) (b s g p n : Int) (vt : Value) (text : List Int) (ht : bytesL.rd m [vt] text) (h0 : app0 d ⟨b, s, g, p, n⟩ text.length ≠ 0) :
    Calls Try.prog 55 #[.agg cs.toArray, .agg ([.int .i64 b, .int .i64 s, .int .i64 g, .int .i64 p, .int .i64 n] : List Value).toArray, vt] w (RetDLE w m (appR d ⟨b, s, g, p, n⟩ text)) := by
  obtain ⟨p0, c0, q0, a0, rfl, A0⟩ := dkL_cells hd
  have A1 := Lib.hid ht
  obtain ⟨pt, ct, rfl, o1, o2, o3, o4⟩ := Lay.list_open ht
  have hlt : text.length ≤ 140737488355328 := by simpa [Lay.int, kBytes] using o3
  have hS := St.start hm
  clear hd ht o3 o4
  rcases app_ways d ⟨b, s, g, p, n⟩ text.length with ⟨h1, hE⟩ | ⟨h1, h2, hE⟩ | ⟨h1, h2, h3, hE⟩ | ⟨h1, h2, h3, h4, hE⟩ | ⟨h1, h2, h3, h4, h5, hE⟩ | ⟨h1, h2, h3, h4, h5, hE⟩
  case inr.inr.inr.inr.inr => exact absurd hE h0
  all_goals
    have HE := Lib.hid hE
    (first | have CE : Hid (checkE d = 0) := if_pos h1 | have CE : Hid (checkE d = 1) := if_neg h1)
    (first | have GE : Hid (lcheckE ⟨b, s, g, p, n⟩ = 0) := if_pos h2 | have GE : Hid (lcheckE ⟨b, s, g, p, n⟩ = 1) := if_neg h2 | skip)
    (try have HG := Lib.hid h2)
    (try obtain ⟨j1, j2, j3, j4, j5, j6, j7, j8, j9, j10⟩ := h2)
    (try simp only at j1 j2 j3 j4 j5 j6 j7 j8 j9 j10)
    (first | have NE : Hid (needE text.length = 3) := if_pos h3 | have NE : Hid (needE text.length = 0) := if_neg h3 | skip)
    (try have TB := Lib.hid h4)
    (try have FU := Lib.hid h5)
    clear hE h0
    go_enter Try.func55, Try.ntmps55
    go_wp2_with (first
    | ((with_reducible refine' Wl.out ?_; apply wl_box (ty := 44) (y := (.tmp 0)) hS); (· (first | (go_simp; done) | (go_simp; with_reducible rfl))); (· exact rfl); clear hS; intro w3 b3 hS)
    | ((with_reducible refine' Wl.out ?_; apply wl_box (ty := 70) (y := (.tmp 1)) hS); (· (first | (go_simp; done) | (go_simp; with_reducible rfl))); (· exact rfl); clear hS; intro w4 b4 hS)
    | ((with_reducible refine' Wl.out ?_; apply wl_alloc (ty := 44) (dst := some 6) hS (.agg #[.slice none 0 0, .slice none 0 0, .int .i64 0, .bool false]) [.slice none 0 0, .slice none 0 0, .int .i64 0, .bool false]); (· kernel_rfl); (· rfl); clear hS; intro w6 b6 hS)
    | ((with_reducible refine' Wl.out ?_; apply wl_alloc (ty := 70) (dst := some 7) hS (.agg #[.int .i64 0, .int .i64 0, .int .i64 0, .int .i64 0, .int .i64 0]) [.int .i64 0, .int .i64 0, .int .i64 0, .int .i64 0, .int .i64 0]); (· kernel_rfl); (· rfl); clear hS; intro w7 b7 hS)
    | ((with_reducible refine' Wl.out ?_; apply wl_alloc (ty := 44) (dst := some 12) hS (.agg #[.slice none 0 0, .slice none 0 0, .int .i64 0, .bool false]) [.slice none 0 0, .slice none 0 0, .int .i64 0, .bool false]); (· kernel_rfl); (· rfl); clear hS; intro w12 b12 hS)
    | ((with_reducible refine' Wl.out ?_; apply wl_load hS); (· (first | exact Try.underlying2 | exact Try.underlying3)); (· exact rfl); (· exact rfl); (· (first | (apply Find.box; (· (repeat constructor)); rfl) | exact Find.mem (by assumption) | (apply Find.row; (· (repeat constructor)); assumption))))
    | ((with_reducible refine' Wl.out ?_; apply wg_load hS); (· (first | exact Try.underlying2 | exact Try.underlying3)); (· exact rfl); (· (first | rfl | (go_simp; done))); (· exact rfl); (· (first | (apply Find.box; (· (repeat constructor)); rfl) | exact Find.mem (by assumption) | (apply Find.row; (· (repeat constructor)); assumption))))
    | ((with_reducible refine' Wl.out ?_; apply wl_loads hS); (· (first | exact rowT44 | exact rowT70)); (· exact rfl); (· (first | (apply Finds.box; (· (repeat constructor)); (· (repeat constructor)); done) | (refine Finds.mem2 (by assumption) ?_; first | rfl | assumption | (simp; done)) | (apply Finds.row; (· (repeat constructor)); (· assumption); (· rfl)))))
    | ((with_reducible refine' Wl.out ?_; apply wg_loads hS); (· (first | exact rowT44 | exact rowT70)); (· (first | rfl | (go_simp; done))); (· exact rfl); (· (first | (apply Finds.box; (· (repeat constructor)); (· (repeat constructor)); done) | (refine Finds.mem2 (by assumption) ?_; first | rfl | assumption | (simp; done)) | (apply Finds.row; (· (repeat constructor)); (· assumption); (· rfl)))))
    | ((with_reducible refine' Wl.out ?_); (with_reducible refine' wg_case ?_ ?_) <;> (intro hgW; (try (have hg2 := hgW; simp [go_sem] at hg2)); (first | (exfalso; assumption) | ((with_reducible refine' Wl.out ?_; apply wl_unwanted); (· exact hgW)) | ((with_reducible refine' Wl.out ?_; apply wg_load hS); (· (first | exact Try.underlying2 | exact Try.underlying3)); (· exact rfl); (· exact hgW); (· exact rfl); (· (first | (apply Find.box; (· (repeat constructor)); rfl) | exact Find.mem (by assumption) | (apply Find.row; (· (repeat constructor)); assumption)))) | ((with_reducible refine' Wl.out ?_; apply wg_loads hS); (· (first | exact rowT44 | exact rowT70)); (· exact hgW); (· exact rfl); (· (first | (apply Finds.box; (· (repeat constructor)); (· (repeat constructor)); done) | (refine Finds.mem2 (by assumption) ?_; first | rfl | assumption | (simp; done)) | (apply Finds.row; (· (repeat constructor)); (· assumption); (· rfl)))))); clear hgW))
    | ((with_reducible refine' Wl.out ?_; apply wl_store hS); (· (first | exact rowT2 | exact rowT3)); (· exact rfl); (· (first | (go_simp; done) | (go_simp; with_reducible rfl))); (· (first | rfl | assumption | (simp [Value.oneCell']; done))); (· (repeat constructor)); (· (repeat constructor)); (· (repeat constructor)); clear hS; intro ws hS)
    | ((with_reducible refine' Wl.out ?_; apply wl_storeR hS); (· (first | exact rowT2 | exact rowT3)); (· exact rfl); (· (first | (go_simp; done) | (go_simp; with_reducible rfl))); (· (first | rfl | assumption | (simp [Value.oneCell']; done))); (· (repeat constructor)); (· (first | assumption | omega | (simp; omega))); clear hS; intro ws hS)
    | ((with_reducible refine' Wl.out ?_; apply wl_stores hS); (· (first | exact rowT44 | exact rowT70)); (· exact rfl); (· exact rfl); (· exact rfl); (· (first | assumption | (simp [Value.oneCell']; done))); (· (repeat constructor)); (· (repeat constructor)); (· (repeat constructor)); clear hS; intro ws hS)
    | (go_at_call 51; (fail_if_success (clear Mk15)); refine (letInt (rcheck_c _ _ hS.inw _ _ (by first | exact A0.out | exact A1.out | exact R72.out | exact R84.out | exact dkL_dry A0.out | exact dkL_dry A1.out | exact dkL_dry R72.out | exact dkL_dry R84.out | exact Lay.nil_rd _ _))).mono ?_; rintro e' w15 ⟨_, m15, rfl, ⟨E15, HE15, rfl⟩, hk⟩; replace hS := hS.call hk; (try replace A0 := Lib.hid (Lay.mono _ hk.le A0.out)); (try replace A1 := Lib.hid (Lay.mono _ hk.le A1.out)); (try replace R72 := Lib.hid (Lay.mono _ hk.le R72.out)); (try replace R84 := Lib.hid (Lay.mono _ hk.le R84.out)); clear hk; replace HE15 := Lib.hid (HE15.out.trans CE.out); obtain rfl := HE15.out; have Mk15 := True.intro)
    | (go_at_call 64; (fail_if_success (clear Mk19)); refine (letInt (rjcheck_v _ _ hS.inw _ _ _ _ _)).mono ?_; rintro e' w19 ⟨_, m19, rfl, ⟨E19, HE19, rfl⟩, hk⟩; replace hS := hS.call hk; (try replace A0 := Lib.hid (Lay.mono _ hk.le A0.out)); (try replace A1 := Lib.hid (Lay.mono _ hk.le A1.out)); (try replace R72 := Lib.hid (Lay.mono _ hk.le R72.out)); (try replace R84 := Lib.hid (Lay.mono _ hk.le R84.out)); clear hk; replace HE19 := Lib.hid (HE19.out.trans GE.out); obtain rfl := HE19.out; have Mk19 := True.intro)
    | (go_at_call 59; (fail_if_success (clear Mk26)); refine (letII (rjneed_c _ _ hS.inw _ _ _ (by omega))).mono ?_; rintro e' w26 ⟨_, m26, rfl, ⟨N26, E26, HN26, HE26, rfl⟩, hk⟩; replace hS := hS.call hk; (try replace A0 := Lib.hid (Lay.mono _ hk.le A0.out)); (try replace A1 := Lib.hid (Lay.mono _ hk.le A1.out)); (try replace R72 := Lib.hid (Lay.mono _ hk.le R72.out)); (try replace R84 := Lib.hid (Lay.mono _ hk.le R84.out)); clear hk; replace HE26 := Lib.hid (HE26.out.trans NE.out); obtain rfl := HE26.out; have Mk26 := True.intro)
    | (go_at_call 89; (fail_if_success (clear Mk36)); refine (letB (rthere_c _ _ hS.inw _ _ (by first | exact A0.out | exact A1.out | exact R72.out | exact R84.out | exact dkL_dry A0.out | exact dkL_dry A1.out | exact dkL_dry R72.out | exact dkL_dry R84.out | exact Lay.nil_rd _ _) _ _ _ _ _)).mono ?_; rintro e' w36 ⟨_, m36, rfl, ⟨B36, HB36, rfl⟩, hk⟩; replace hS := hS.call hk; (try replace A0 := Lib.hid (Lay.mono _ hk.le A0.out)); (try replace A1 := Lib.hid (Lay.mono _ hk.le A1.out)); (try replace R72 := Lib.hid (Lay.mono _ hk.le R72.out)); (try replace R84 := Lib.hid (Lay.mono _ hk.le R84.out)); clear hk; replace HB36 := Lib.hid (HB36.out.trans TB.out); obtain rfl := HB36.out; have Mk36 := True.intro))
    all_goals first
      | (refine ret_cells2 (n := 4) (k := 5) rfl rfl rfl hS (by (repeat constructor)) (by (repeat constructor)) rfl rfl dkRow lgRow rfl ?_
         exact app_close HE.out (by decide) hS)
      | (exfalso
         have hf := FU.out
         rw [← HN26.out] at hf
         have hq : ¬ n = 262144 := by
           have hz : (n == 262144) = false := And.right ‹N26 ≤ s - p ∧ (n == 262144) = false›
           simpa using hz
         exact hq (hf.resolve_left (by omega)))
end Go.Proofs.Ytnmgiiaejpaeeaa
