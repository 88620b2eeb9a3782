/- Contract of the reference's Append for the empty text; and whatever comes in. -/
import Derived.Test.YtnmgiiaejpaeeaaJ11G
namespace Go.Proofs.Ytnmgiiaejpaeeaa
set_option linter.unusedVariables false
set_option linter.unusedSimpArgs false
open Go.RowKit Go.Shelf
set_option maxRecDepth 100000 in
set_option maxHeartbeats 8000000 in
theorem rjappend_0 (m : Mem) (w : World) (hm : m.In w) (cs : List Value) (d : Dk) (hd : dkL.rd m cs d) (b s g p n : Int) (vt : Value) (ht : bytesL.rd m [vt] []) (h0 : app0 d ⟨b, s, g, p, n⟩ 0 = 0) :
    Calls Try.prog 55 #[.agg cs.toArray, .agg ([.int .i64 b, .int .i64 s, .int .i64 g, .int .i64 p, .int .i64 n] : List Value).toArray, vt] w (RetDLE w m (appR d ⟨b, s, g, p, n⟩ [])) := by
  obtain ⟨p0, c0, q0, a0, rfl, A0⟩ := dkL_cells hd
  have A1 := Lib.hid ht
  obtain ⟨pt, ct, rfl, o1, o2, o3, o4⟩ := Lay.list_open ht
  rw [show ([] : List Int).length = 0 from rfl] at A1 ⊢
  have hS := St.start hm
  obtain ⟨h1, h2, h3, h4, h5⟩ := app_zero h0
  have HP : Hid (needN 0 = ((1 : Nat) : Int)) := by show _ = _; decide
  have hP := HP.out
  have HE := Lib.hid h0
  have CE : Hid (checkE d = 0) := if_pos h1
  have GE : Hid (lcheckE ⟨b, s, g, p, n⟩ = 0) := if_pos h2
  have HG := Lib.hid h2
  obtain ⟨j1, j2, j3, j4, j5, j6, j7, j8, j9, j10⟩ := h2
  simp only at j1 j2 j3 j4 j5 j6 j7 j8 j9 j10 h5
  rw [hP] at h5
  have NE : Hid (needE 0 = 0) := if_neg h3
  have TB := Lib.hid h4
  have h6 : 1 ≤ s - p := by omega
  have h7 : (n == 262144) = false := by simp; omega
  simp only [maxLen] at o2
  have hm0 : min (11 : Int) 0 = 0 := by decide
  have hc0 : ct ≤ maxLen := by simp only [maxLen]; omega
  have HR0 : ∀ (m' : Mem) (q : Option Addr) (c : Nat), c ≤ maxLen → bytesL.rd m' [.slice q 0 c] [] := fun m' q c hc => ⟨q, c, rfl, Nat.zero_le _, hc, by simp, Row.nil _ _ _⟩
  have HR1 := Lib.hid HR0
  have hway : (pt = none ∧ ct = 0) ∨ (pt = none ∧ ct ≠ 0) ∨ ((∃ a, pt = some a) ∧ ct = 0) ∨ ((∃ a, pt = some a) ∧ ct ≠ 0) := by
    cases pt <;> by_cases h : ct = 0 <;> simp [h]
  clear hd ht o1 o3 o4 h0 hP h4 h5 HR0 A1
  rcases hway with ⟨rfl, rfl⟩ | ⟨rfl, y1⟩ | ⟨⟨pa, rfl⟩, rfl⟩ | ⟨⟨pa, rfl⟩, y1⟩
  all_goals
    go_enter Try.func55, Try.ntmps55
    go_wp2_with (first
    | ((with_reducible refine' Wl.out ?_; apply wl_box (ty := 44) (y := (.tmp 0)) hS); (· (first | (go_simp; done) | (go_simp; with_reducible rfl))); (· exact rfl); clear hS; intro w3 b3 hS)
    | ((with_reducible refine' Wl.out ?_; apply wl_box (ty := 70) (y := (.tmp 1)) hS); (· (first | (go_simp; done) | (go_simp; with_reducible rfl))); (· exact rfl); clear hS; intro w4 b4 hS)
    | ((with_reducible refine' Wl.out ?_; apply wl_alloc (ty := 44) (dst := some 6) hS (.agg #[.slice none 0 0, .slice none 0 0, .int .i64 0, .bool false]) [.slice none 0 0, .slice none 0 0, .int .i64 0, .bool false]); (· kernel_rfl); (· rfl); clear hS; intro w6 b6 hS)
    | ((with_reducible refine' Wl.out ?_; apply wl_alloc (ty := 70) (dst := some 7) hS (.agg #[.int .i64 0, .int .i64 0, .int .i64 0, .int .i64 0, .int .i64 0]) [.int .i64 0, .int .i64 0, .int .i64 0, .int .i64 0, .int .i64 0]); (· kernel_rfl); (· rfl); clear hS; intro w7 b7 hS)
    | ((with_reducible refine' Wl.out ?_; apply wl_alloc (ty := 44) (dst := some 12) hS (.agg #[.slice none 0 0, .slice none 0 0, .int .i64 0, .bool false]) [.slice none 0 0, .slice none 0 0, .int .i64 0, .bool false]); (· kernel_rfl); (· rfl); clear hS; intro w12 b12 hS)
    | ((with_reducible refine' Wl.out ?_; apply wl_load hS); (· (first | exact Try.underlying2 | exact Try.underlying3)); (· exact rfl); (· exact rfl); (· (first | (apply Find.box; (· (repeat constructor)); rfl) | exact Find.mem (by assumption) | (apply Find.row; (· (repeat constructor)); assumption))))
    | ((with_reducible refine' Wl.out ?_; apply wg_load hS); (· (first | exact Try.underlying2 | exact Try.underlying3)); (· exact rfl); (· (first | rfl | (go_simp; done))); (· exact rfl); (· (first | (apply Find.box; (· (repeat constructor)); rfl) | exact Find.mem (by assumption) | (apply Find.row; (· (repeat constructor)); assumption))))
    | ((with_reducible refine' Wl.out ?_; apply wl_loads hS); (· (first | exact rowT44 | exact rowT70)); (· exact rfl); (· (first | (apply Finds.box; (· (repeat constructor)); (· (repeat constructor)); done) | (refine Finds.mem2 (by assumption) ?_; first | rfl | assumption | (simp; done)) | (apply Finds.row; (· (repeat constructor)); (· assumption); (· rfl)))))
    | ((with_reducible refine' Wl.out ?_; apply wg_loads hS); (· (first | exact rowT44 | exact rowT70)); (· (first | rfl | (go_simp; done))); (· exact rfl); (· (first | (apply Finds.box; (· (repeat constructor)); (· (repeat constructor)); done) | (refine Finds.mem2 (by assumption) ?_; first | rfl | assumption | (simp; done)) | (apply Finds.row; (· (repeat constructor)); (· assumption); (· rfl)))))
    | ((with_reducible refine' Wl.out ?_); (with_reducible refine' wg_case ?_ ?_) <;> (intro hgW; (try (have hg2 := hgW; simp [go_sem] at hg2)); (first | (exfalso; assumption) | ((with_reducible refine' Wl.out ?_; apply wl_unwanted); (· exact hgW)) | ((with_reducible refine' Wl.out ?_; apply wg_load hS); (· (first | exact Try.underlying2 | exact Try.underlying3)); (· exact rfl); (· exact hgW); (· exact rfl); (· (first | (apply Find.box; (· (repeat constructor)); rfl) | exact Find.mem (by assumption) | (apply Find.row; (· (repeat constructor)); assumption)))) | ((with_reducible refine' Wl.out ?_; apply wg_loads hS); (· (first | exact rowT44 | exact rowT70)); (· exact hgW); (· exact rfl); (· (first | (apply Finds.box; (· (repeat constructor)); (· (repeat constructor)); done) | (refine Finds.mem2 (by assumption) ?_; first | rfl | assumption | (simp; done)) | (apply Finds.row; (· (repeat constructor)); (· assumption); (· rfl)))))); clear hgW))
    | ((with_reducible refine' Wl.out ?_; apply wl_store hS); (· (first | exact rowT2 | exact rowT3)); (· exact rfl); (· (first | (go_simp; done) | (go_simp; with_reducible rfl))); (· (first | rfl | assumption | (simp [Value.oneCell']; done))); (· (repeat constructor)); (· (repeat constructor)); (· (repeat constructor)); clear hS; intro ws hS)
    | ((with_reducible refine' Wl.out ?_; apply wl_storeR hS); (· (first | exact rowT2 | exact rowT3)); (· exact rfl); (· (first | (go_simp; done) | (go_simp; with_reducible rfl))); (· (first | rfl | assumption | (simp [Value.oneCell']; done))); (· (repeat constructor)); (· (first | assumption | omega | (simp; omega))); clear hS; intro ws hS)
    | ((with_reducible refine' Wl.out ?_; apply wl_stores hS); (· (first | exact rowT44 | exact rowT70)); (· exact rfl); (· exact rfl); (· exact rfl); (· (first | assumption | (simp [Value.oneCell']; done))); (· (repeat constructor)); (· (repeat constructor)); (· (repeat constructor)); clear hS; intro ws hS)
    | (go_at_call 51; (fail_if_success (clear Mk15)); refine (letInt (rcheck_c _ _ hS.inw _ _ (by first | exact A0.out | exact A1.out | exact A2.out | exact R72.out | exact R84.out | exact dkL_dry A0.out | exact dkL_dry A1.out | exact dkL_dry A2.out | exact dkL_dry R72.out | exact dkL_dry R84.out | exact Lay.nil_rd _ _))).mono ?_; rintro e' w15 ⟨_, m15, rfl, ⟨E15, HE15, rfl⟩, hk⟩; replace hS := hS.call hk; (try replace A0 := Lib.hid (Lay.mono _ hk.le A0.out)); (try replace A1 := Lib.hid (Lay.mono _ hk.le A1.out)); (try replace A2 := Lib.hid (Lay.mono _ hk.le A2.out)); (try replace R72 := Lib.hid (Lay.mono _ hk.le R72.out)); (try replace R84 := Lib.hid (Lay.mono _ hk.le R84.out)); clear hk; replace HE15 := Lib.hid (HE15.out.trans CE.out); obtain rfl := HE15.out; have Mk15 := True.intro)
    | (go_at_call 64; (fail_if_success (clear Mk19)); refine (letInt (rjcheck_v _ _ hS.inw _ _ _ _ _)).mono ?_; rintro e' w19 ⟨_, m19, rfl, ⟨E19, HE19, rfl⟩, hk⟩; replace hS := hS.call hk; (try replace A0 := Lib.hid (Lay.mono _ hk.le A0.out)); (try replace A1 := Lib.hid (Lay.mono _ hk.le A1.out)); (try replace A2 := Lib.hid (Lay.mono _ hk.le A2.out)); (try replace R72 := Lib.hid (Lay.mono _ hk.le R72.out)); (try replace R84 := Lib.hid (Lay.mono _ hk.le R84.out)); clear hk; replace HE19 := Lib.hid (HE19.out.trans GE.out); obtain rfl := HE19.out; have Mk19 := True.intro)
    | (go_at_call 59; (fail_if_success (clear Mk26)); refine (letII (rjneed_c _ _ hS.inw _ _ _ (by omega))).mono ?_; rintro e' w26 ⟨_, m26, rfl, ⟨N26, E26, HN26, HE26, rfl⟩, hk⟩; replace hS := hS.call hk; (try replace A0 := Lib.hid (Lay.mono _ hk.le A0.out)); (try replace A1 := Lib.hid (Lay.mono _ hk.le A1.out)); (try replace A2 := Lib.hid (Lay.mono _ hk.le A2.out)); (try replace R72 := Lib.hid (Lay.mono _ hk.le R72.out)); (try replace R84 := Lib.hid (Lay.mono _ hk.le R84.out)); clear hk; replace HE26 := Lib.hid (HE26.out.trans NE.out); obtain rfl := HE26.out; replace HN26 := Lib.hid (HN26.out.trans HP.out); obtain rfl := HN26.out; have Mk26 := True.intro)
    | (go_at_call 89; (fail_if_success (clear Mk36)); refine (letB (rthere_c _ _ hS.inw _ _ (by first | exact A0.out | exact A1.out | exact A2.out | exact R72.out | exact R84.out | exact dkL_dry A0.out | exact dkL_dry A1.out | exact dkL_dry A2.out | exact dkL_dry R72.out | exact dkL_dry R84.out | exact Lay.nil_rd _ _) _ _ _ _ _)).mono ?_; rintro e' w36 ⟨_, m36, rfl, ⟨B36, HB36, rfl⟩, hk⟩; replace hS := hS.call hk; (try replace A0 := Lib.hid (Lay.mono _ hk.le A0.out)); (try replace A1 := Lib.hid (Lay.mono _ hk.le A1.out)); (try replace A2 := Lib.hid (Lay.mono _ hk.le A2.out)); (try replace R72 := Lib.hid (Lay.mono _ hk.le R72.out)); (try replace R84 := Lib.hid (Lay.mono _ hk.le R84.out)); clear hk; replace HB36 := Lib.hid (HB36.out.trans TB.out); obtain rfl := HB36.out; have Mk36 := True.intro))
    obtain ⟨R, hR⟩ : ∃ R, R = appGo ⟨b, s, g, p, n⟩ [] 1 1 0 d := ⟨_, rfl⟩
    have HR := Lib.hid hR
    clear hR
    go_loopw [55] (fun i wr => ∃ (k : Nat) (D : Dk) (pd qd : Option Addr) (cd ad : Nat) (m' : Mem), k ≤ 1 ∧ i = .int .i64 k ∧ Hid (appGo ⟨b, s, g, p, n⟩ [] 1 (1 - k) k D = R) ∧ Hid (dkL.rd m' [.slice pd D.dry.length cd, .slice qd D.wet.length ad, .int .i64 D.fuse, .bool D.dead] D) ∧
      St [] w m wr [.box b7 [.int .i64 0, .int .i64 0, .int .i64 0, .int .i64 0, .int .i64 0], .box b6 [.slice none 0 0, .slice none 0 0, .int .i64 0, .bool false], .box b4 [.int .i64 b, .int .i64 s, .int .i64 g, .int .i64 p, .int .i64 n], .box b3 [.slice pd D.dry.length cd, .slice qd D.wet.length ad, .int .i64 D.fuse, .bool D.dead]] m') (fun i _ => 1 - (intOf i).toNat)
    case atStart => exact ⟨0, d, _, _, _, _, _, Nat.zero_le _, rfl, HR.out.symm, A0, hS⟩
    case round =>
      clear hS A0
      obtain ⟨k, D, pd, qd, cd, ad, m', hk, rfl, HGO, A2, hS⟩ := hrel
      by_cases hlt : k < 1
      · obtain rfl : k = 0 := by omega
        have ew1 : IntKind.i64.wrap (b + p) = b + p := IntWalk.i64_in _ (by omega)
        go_wp2_with (first
    | ((with_reducible refine' Wl.out ?_; apply wl_box (ty := 44) (y := (.tmp 0)) hS); (· (first | (go_simp; done) | (go_simp; with_reducible rfl))); (· exact rfl); clear hS; intro w3 b3 hS)
    | ((with_reducible refine' Wl.out ?_; apply wl_box (ty := 70) (y := (.tmp 1)) hS); (· (first | (go_simp; done) | (go_simp; with_reducible rfl))); (· exact rfl); clear hS; intro w4 b4 hS)
    | ((with_reducible refine' Wl.out ?_; apply wl_alloc (ty := 44) (dst := some 6) hS (.agg #[.slice none 0 0, .slice none 0 0, .int .i64 0, .bool false]) [.slice none 0 0, .slice none 0 0, .int .i64 0, .bool false]); (· kernel_rfl); (· rfl); clear hS; intro w6 b6 hS)
    | ((with_reducible refine' Wl.out ?_; apply wl_alloc (ty := 70) (dst := some 7) hS (.agg #[.int .i64 0, .int .i64 0, .int .i64 0, .int .i64 0, .int .i64 0]) [.int .i64 0, .int .i64 0, .int .i64 0, .int .i64 0, .int .i64 0]); (· kernel_rfl); (· rfl); clear hS; intro w7 b7 hS)
    | ((with_reducible refine' Wl.out ?_; apply wl_alloc (ty := 44) (dst := some 12) hS (.agg #[.slice none 0 0, .slice none 0 0, .int .i64 0, .bool false]) [.slice none 0 0, .slice none 0 0, .int .i64 0, .bool false]); (· kernel_rfl); (· rfl); clear hS; intro w12 b12 hS)
    | ((with_reducible refine' Wl.out ?_; apply wl_load hS); (· (first | exact Try.underlying2 | exact Try.underlying3)); (· exact rfl); (· exact rfl); (· (first | (apply Find.box; (· (repeat constructor)); rfl) | exact Find.mem (by assumption) | (apply Find.row; (· (repeat constructor)); assumption))))
    | ((with_reducible refine' Wl.out ?_; apply wg_load hS); (· (first | exact Try.underlying2 | exact Try.underlying3)); (· exact rfl); (· (first | rfl | (go_simp; done))); (· exact rfl); (· (first | (apply Find.box; (· (repeat constructor)); rfl) | exact Find.mem (by assumption) | (apply Find.row; (· (repeat constructor)); assumption))))
    | ((with_reducible refine' Wl.out ?_; apply wl_loads hS); (· (first | exact rowT44 | exact rowT70)); (· exact rfl); (· (first | (apply Finds.box; (· (repeat constructor)); (· (repeat constructor)); done) | (refine Finds.mem2 (by assumption) ?_; first | rfl | assumption | (simp; done)) | (apply Finds.row; (· (repeat constructor)); (· assumption); (· rfl)))))
    | ((with_reducible refine' Wl.out ?_; apply wg_loads hS); (· (first | exact rowT44 | exact rowT70)); (· (first | rfl | (go_simp; done))); (· exact rfl); (· (first | (apply Finds.box; (· (repeat constructor)); (· (repeat constructor)); done) | (refine Finds.mem2 (by assumption) ?_; first | rfl | assumption | (simp; done)) | (apply Finds.row; (· (repeat constructor)); (· assumption); (· rfl)))))
    | ((with_reducible refine' Wl.out ?_); (with_reducible refine' wg_case ?_ ?_) <;> (intro hgW; (try (have hg2 := hgW; simp [go_sem] at hg2)); (first | (exfalso; assumption) | ((with_reducible refine' Wl.out ?_; apply wl_unwanted); (· exact hgW)) | ((with_reducible refine' Wl.out ?_; apply wg_load hS); (· (first | exact Try.underlying2 | exact Try.underlying3)); (· exact rfl); (· exact hgW); (· exact rfl); (· (first | (apply Find.box; (· (repeat constructor)); rfl) | exact Find.mem (by assumption) | (apply Find.row; (· (repeat constructor)); assumption)))) | ((with_reducible refine' Wl.out ?_; apply wg_loads hS); (· (first | exact rowT44 | exact rowT70)); (· exact hgW); (· exact rfl); (· (first | (apply Finds.box; (· (repeat constructor)); (· (repeat constructor)); done) | (refine Finds.mem2 (by assumption) ?_; first | rfl | assumption | (simp; done)) | (apply Finds.row; (· (repeat constructor)); (· assumption); (· rfl)))))); clear hgW))
    | ((with_reducible refine' Wl.out ?_; apply wl_store hS); (· (first | exact rowT2 | exact rowT3)); (· exact rfl); (· (first | (go_simp; done) | (go_simp; with_reducible rfl))); (· (first | rfl | assumption | (simp [Value.oneCell']; done))); (· (repeat constructor)); (· (repeat constructor)); (· (repeat constructor)); clear hS; intro ws hS)
    | ((with_reducible refine' Wl.out ?_; apply wl_storeR hS); (· (first | exact rowT2 | exact rowT3)); (· exact rfl); (· (first | (go_simp; done) | (go_simp; with_reducible rfl))); (· (first | rfl | assumption | (simp [Value.oneCell']; done))); (· (repeat constructor)); (· (first | assumption | omega | (simp; omega))); clear hS; intro ws hS)
    | ((with_reducible refine' Wl.out ?_; apply wl_stores hS); (· (first | exact rowT44 | exact rowT70)); (· exact rfl); (· exact rfl); (· exact rfl); (· (first | assumption | (simp [Value.oneCell']; done))); (· (repeat constructor)); (· (repeat constructor)); (· (repeat constructor)); clear hS; intro ws hS))
        have hle := hS.leSelf
        replace hS := hS.drew
        refine startL (S := Sx _ [(b3, _), (b4, _)]) (by kernel_rfl) ((hS.sx0.cons hS (by (repeat constructor))).cons hS (by (repeat constructor))) (fun _ _ _ _ => trivial) (fun hHeld => ?_)
        refine takeN 0 rfl (by kernel_rfl) (yield_loads rfl rowT44 rfl (by (first | (apply FindsX.box; (· (repeat constructor)); (· (repeat constructor)); done) | (refine FindsX.mem (by assumption) ?_; first | rfl | assumption | (simp; done))))) ?_
        try simp only [Act.put, nz1, nz2, nz3]
        focus (refine takeN 1 (v := ?_) rfl (by kernel_rfl) ?_ ?_; rotate_left; focus (intro w hSw; clear hSw; go_simp; try with_reducible rfl))
        try simp only [Act.put, nz1, nz2, nz3]
        refine takeN 2 rfl (by kernel_rfl) (yield_load rfl Try.underlying3 rfl rfl (by (first | (apply FindX.box; (· (repeat constructor)); rfl) | exact FindX.mem (by assumption)))) ?_
        try simp only [Act.put, nz1, nz2, nz3]
        focus (refine takeN 3 (v := ?_) rfl (by kernel_rfl) ?_ ?_; rotate_left; focus (intro w hSw; clear hSw; go_simp; try with_reducible rfl))
        try simp only [Act.put, nz1, nz2, nz3]
        refine takeN 4 rfl (by kernel_rfl) (yield_load rfl Try.underlying3 rfl rfl (by (first | (apply FindX.box; (· (repeat constructor)); rfl) | exact FindX.mem (by assumption)))) ?_
        try simp only [Act.put, nz1, nz2, nz3]
        focus (refine takeN 5 (v := ?_) rfl (by kernel_rfl) ?_ ?_; rotate_left; focus (intro w hSw; clear hSw; go_simp; try with_reducible rfl))
        try simp only [Act.put, nz1, nz2, nz3]
        focus (refine takeN 6 (v := ?_) rfl (by kernel_rfl) ?_ ?_; rotate_left; focus (intro w hSw; clear hSw; go_simp; try with_reducible rfl))
        try simp only [Act.put, nz1, nz2, nz3]
        focus (refine takeN 7 (v := ?_) rfl (by kernel_rfl) ?_ ?_; rotate_left; focus (intro w hSw; clear hSw; go_simp; try with_reducible rfl))
        try simp only [Act.put, nz1, nz2, nz3]
        refine takeN 8 rfl (by kernel_rfl) (yield_loads rfl rowT70 rfl (by (first | (apply FindsX.box; (· (repeat constructor)); (· (repeat constructor)); done) | (refine FindsX.mem (by assumption) ?_; first | rfl | assumption | (simp; done))))) ?_
        try simp only [Act.put, nz1, nz2, nz3]
        focus (refine takeN 9 (v := ?_) rfl (by kernel_rfl) ?_ ?_; rotate_left; focus (intro w hSw; clear hSw; go_simp; try with_reducible rfl))
        try simp only [Act.put, nz1, nz2, nz3]
        focus (refine takeN 10 (v := ?_) rfl (by kernel_rfl) ?_ ?_; rotate_left; focus (intro w hSw; clear hSw; go_simp; try with_reducible rfl))
        try simp only [Act.put, nz1, nz2, nz3]
        focus (refine takeN 11 (v := ?_) rfl (by kernel_rfl) ?_ ?_; rotate_left; focus (intro w hSw; clear hSw; go_simp; try with_reducible rfl))
        try simp only [Act.put, nz1, nz2, nz3]
        refine wpAnyH_ready (rs := [12, 17]) (by kernel_rfl) (by simp) ?_
        refine consL 12 rfl (fun K hK => ?_) (consL 17 rfl (fun K hK => ?_) AllReadyH.nil)
        rotate_right
        focus
          (with_reducible apply s_alloc hS (.agg #[.slice none 0 0, .slice none 0 0, .int .i64 0, .bool false]) [.slice none 0 0, .slice none 0 0, .int .i64 0, .bool false]); (· kernel_rfl); (· rfl); clear hS; intro w12 b12 hS
          refine hK.out _ _ (by first | exact ((hS.sx0.cons hS (by (repeat constructor))).cons hS (by (repeat constructor))) | exact Sx.le (by assumption) ((hS.sx0.cons hS (by (repeat constructor))).cons hS (by (repeat constructor)))) (fun hHeld => ?_)
          clear hK K
          try simp only [Act.put, nz1, nz2, nz3]
          refine wpAnyH_ready (rs := [12]) (by kernel_rfl) (by simp) ?_
          refine consL 12 rfl (fun K hK => ?_) AllReadyH.nil
          rw [if_pos (by rfl)]; go_simp; refine (letL (rpart_0 _ _ hS.inw 1 _ [] (HR1.out _ _ _ (by first | decide | omega)) _ _ _ _ _ HG.out rfl (by decide))).mono ?_; rintro e' w71 ⟨_, m71, rfl, ⟨p71, c71, Y71, HY71, rfl, R71, C71⟩, hk⟩; replace hS := hS.call hk; (try replace A2 := Lib.hid (Lay.mono _ hk.le A2.out)); replace hle := hle.trans hk.le; clear hk; go_wp2_with fail
          refine hK.out _ _ (by first | exact ((hS.sx0.cons hS (by (repeat constructor))).cons hS (by (repeat constructor))) | exact Sx.le (by assumption) ((hS.sx0.cons hS (by (repeat constructor))).cons hS (by (repeat constructor)))) (fun hHeld => ?_)
          clear hK K
          try simp only [Act.put, nz1, nz2, nz3]
          refine wpAnyH_ready (rs := [13]) (by kernel_rfl) (by simp) ?_
          refine consL 13 rfl (fun K hK => ?_) AllReadyH.nil
          rw [if_pos (by rfl)]; go_simp; refine (letDE (rwrite_c _ _ hS.inw _ _ A2.out _ (inK64 (by omega) (by omega)) _ _ R71.out)).mono ?_; rintro e' w72 ⟨_, m72, rfl, ⟨p72, c72, q72, a72, D72, E72, HD72, HE72, rfl, R72⟩, hk⟩; replace hS := hS.call hk; (try replace A2 := Lib.hid (Lay.mono _ hk.le A2.out)); replace hle := hle.trans hk.le; clear hk; go_wp2_with fail
          refine hK.out _ _ (by first | exact ((hS.sx0.cons hS (by (repeat constructor))).cons hS (by (repeat constructor))) | exact Sx.le (by assumption) ((hS.sx0.cons hS (by (repeat constructor))).cons hS (by (repeat constructor)))) (fun hHeld => ?_)
          clear hK K
          try simp only [Act.put, nz1, nz2, nz3]
          focus (refine takeN 14 (v := ?_) rfl (by kernel_rfl) ?_ ?_; rotate_left; focus (intro w hSw; clear hSw; go_simp; try with_reducible rfl))
          try simp only [Act.put, nz1, nz2, nz3]
          focus (refine takeN 15 (v := ?_) rfl (by kernel_rfl) ?_ ?_; rotate_left; focus (intro w hSw; clear hSw; go_simp; try with_reducible rfl))
          try simp only [Act.put, nz1, nz2, nz3]
          focus (refine takeN 16 (v := ?_) rfl (by kernel_rfl) ?_ ?_; rotate_left; focus (intro w hSw; clear hSw; go_simp; try with_reducible rfl))
          try simp only [Act.put, nz1, nz2, nz3]
          refine wpAnyH_ready (rs := [18]) (by kernel_rfl) (by simp) ?_
          refine consL 18 rfl (fun K hK => ?_) AllReadyH.nil
          (with_reducible apply s_stores hS); (· exact rowT44); (· exact rfl); (· exact rfl); (· exact rfl); (· (first | assumption | (simp [Value.oneCell']; done))); (· (repeat constructor)); (· (repeat constructor)); (· (repeat constructor)); clear hS; intro ws hS
          refine hK.out _ _ (by first | exact ((hS.sx0.cons hS (by (repeat constructor))).cons hS (by (repeat constructor))) | exact Sx.le (by assumption) ((hS.sx0.cons hS (by (repeat constructor))).cons hS (by (repeat constructor)))) (fun hHeld => ?_)
          clear hK K
          try simp only [Act.put, nz1, nz2, nz3]
          focus (refine takeN 19 (v := ?_) rfl (by kernel_rfl) ?_ ?_; rotate_left; focus (intro w hSw; clear hSw; go_simp; try with_reducible rfl))
          try simp only [Act.put, nz1, nz2, nz3]
          refine wpAnyH_done (by kernel_rfl) ?_ _
          refine NoPanic.normal ?_
        rotate_right
        focus
          rw [if_pos (by rfl)]; go_simp; refine (letL (rpart_0 _ _ hS.inw 1 _ [] (HR1.out _ _ _ (by first | decide | omega)) _ _ _ _ _ HG.out rfl (by decide))).mono ?_; rintro e' w71 ⟨_, m71, rfl, ⟨p71, c71, Y71, HY71, rfl, R71, C71⟩, hk⟩; replace hS := hS.call hk; (try replace A2 := Lib.hid (Lay.mono _ hk.le A2.out)); replace hle := hle.trans hk.le; clear hk; go_wp2_with fail
          refine hK.out _ _ (by first | exact ((hS.sx0.cons hS (by (repeat constructor))).cons hS (by (repeat constructor))) | exact Sx.le (by assumption) ((hS.sx0.cons hS (by (repeat constructor))).cons hS (by (repeat constructor)))) (fun hHeld => ?_)
          clear hK K
          try simp only [Act.put, nz1, nz2, nz3]
          refine wpAnyH_ready (rs := [13, 17]) (by kernel_rfl) (by simp) ?_
          refine consL 13 rfl (fun K hK => ?_) (consL 17 rfl (fun K hK => ?_) AllReadyH.nil)
          rotate_right
          focus
            (with_reducible apply s_alloc hS (.agg #[.slice none 0 0, .slice none 0 0, .int .i64 0, .bool false]) [.slice none 0 0, .slice none 0 0, .int .i64 0, .bool false]); (· kernel_rfl); (· rfl); clear hS; intro w12 b12 hS
            refine hK.out _ _ (by first | exact ((hS.sx0.cons hS (by (repeat constructor))).cons hS (by (repeat constructor))) | exact Sx.le (by assumption) ((hS.sx0.cons hS (by (repeat constructor))).cons hS (by (repeat constructor)))) (fun hHeld => ?_)
            clear hK K
            try simp only [Act.put, nz1, nz2, nz3]
            refine wpAnyH_ready (rs := [13]) (by kernel_rfl) (by simp) ?_
            refine consL 13 rfl (fun K hK => ?_) AllReadyH.nil
            rw [if_pos (by rfl)]; go_simp; refine (letDE (rwrite_c _ _ hS.inw _ _ A2.out _ (inK64 (by omega) (by omega)) _ _ R71.out)).mono ?_; rintro e' w72 ⟨_, m72, rfl, ⟨p72, c72, q72, a72, D72, E72, HD72, HE72, rfl, R72⟩, hk⟩; replace hS := hS.call hk; (try replace A2 := Lib.hid (Lay.mono _ hk.le A2.out)); replace hle := hle.trans hk.le; clear hk; go_wp2_with fail
            refine hK.out _ _ (by first | exact ((hS.sx0.cons hS (by (repeat constructor))).cons hS (by (repeat constructor))) | exact Sx.le (by assumption) ((hS.sx0.cons hS (by (repeat constructor))).cons hS (by (repeat constructor)))) (fun hHeld => ?_)
            clear hK K
            try simp only [Act.put, nz1, nz2, nz3]
            focus (refine takeN 14 (v := ?_) rfl (by kernel_rfl) ?_ ?_; rotate_left; focus (intro w hSw; clear hSw; go_simp; try with_reducible rfl))
            try simp only [Act.put, nz1, nz2, nz3]
            focus (refine takeN 15 (v := ?_) rfl (by kernel_rfl) ?_ ?_; rotate_left; focus (intro w hSw; clear hSw; go_simp; try with_reducible rfl))
            try simp only [Act.put, nz1, nz2, nz3]
            focus (refine takeN 16 (v := ?_) rfl (by kernel_rfl) ?_ ?_; rotate_left; focus (intro w hSw; clear hSw; go_simp; try with_reducible rfl))
            try simp only [Act.put, nz1, nz2, nz3]
            refine wpAnyH_ready (rs := [18]) (by kernel_rfl) (by simp) ?_
            refine consL 18 rfl (fun K hK => ?_) AllReadyH.nil
            (with_reducible apply s_stores hS); (· exact rowT44); (· exact rfl); (· exact rfl); (· exact rfl); (· (first | assumption | (simp [Value.oneCell']; done))); (· (repeat constructor)); (· (repeat constructor)); (· (repeat constructor)); clear hS; intro ws hS
            refine hK.out _ _ (by first | exact ((hS.sx0.cons hS (by (repeat constructor))).cons hS (by (repeat constructor))) | exact Sx.le (by assumption) ((hS.sx0.cons hS (by (repeat constructor))).cons hS (by (repeat constructor)))) (fun hHeld => ?_)
            clear hK K
            try simp only [Act.put, nz1, nz2, nz3]
            focus (refine takeN 19 (v := ?_) rfl (by kernel_rfl) ?_ ?_; rotate_left; focus (intro w hSw; clear hSw; go_simp; try with_reducible rfl))
            try simp only [Act.put, nz1, nz2, nz3]
            refine wpAnyH_done (by kernel_rfl) ?_ _
            refine NoPanic.normal ?_
          rotate_right
          focus
            rw [if_pos (by rfl)]; go_simp; refine (letDE (rwrite_c _ _ hS.inw _ _ A2.out _ (inK64 (by omega) (by omega)) _ _ R71.out)).mono ?_; rintro e' w72 ⟨_, m72, rfl, ⟨p72, c72, q72, a72, D72, E72, HD72, HE72, rfl, R72⟩, hk⟩; replace hS := hS.call hk; (try replace A2 := Lib.hid (Lay.mono _ hk.le A2.out)); replace hle := hle.trans hk.le; clear hk; go_wp2_with fail
            refine hK.out _ _ (by first | exact ((hS.sx0.cons hS (by (repeat constructor))).cons hS (by (repeat constructor))) | exact Sx.le (by assumption) ((hS.sx0.cons hS (by (repeat constructor))).cons hS (by (repeat constructor)))) (fun hHeld => ?_)
            clear hK K
            try simp only [Act.put, nz1, nz2, nz3]
            focus (refine takeN 14 (v := ?_) rfl (by kernel_rfl) ?_ ?_; rotate_left; focus (intro w hSw; clear hSw; go_simp; try with_reducible rfl))
            try simp only [Act.put, nz1, nz2, nz3]
            focus (refine takeN 15 (v := ?_) rfl (by kernel_rfl) ?_ ?_; rotate_left; focus (intro w hSw; clear hSw; go_simp; try with_reducible rfl))
            try simp only [Act.put, nz1, nz2, nz3]
            focus (refine takeN 16 (v := ?_) rfl (by kernel_rfl) ?_ ?_; rotate_left; focus (intro w hSw; clear hSw; go_simp; try with_reducible rfl))
            try simp only [Act.put, nz1, nz2, nz3]
            refine wpAnyH_ready (rs := [17]) (by kernel_rfl) (by simp) ?_
            refine consL 17 rfl (fun K hK => ?_) AllReadyH.nil
            (with_reducible apply s_alloc hS (.agg #[.slice none 0 0, .slice none 0 0, .int .i64 0, .bool false]) [.slice none 0 0, .slice none 0 0, .int .i64 0, .bool false]); (· kernel_rfl); (· rfl); clear hS; intro w12 b12 hS
            refine hK.out _ _ (by first | exact ((hS.sx0.cons hS (by (repeat constructor))).cons hS (by (repeat constructor))) | exact Sx.le (by assumption) ((hS.sx0.cons hS (by (repeat constructor))).cons hS (by (repeat constructor)))) (fun hHeld => ?_)
            clear hK K
            try simp only [Act.put, nz1, nz2, nz3]
            refine wpAnyH_ready (rs := [18]) (by kernel_rfl) (by simp) ?_
            refine consL 18 rfl (fun K hK => ?_) AllReadyH.nil
            (with_reducible apply s_stores hS); (· exact rowT44); (· exact rfl); (· exact rfl); (· exact rfl); (· (first | assumption | (simp [Value.oneCell']; done))); (· (repeat constructor)); (· (repeat constructor)); (· (repeat constructor)); clear hS; intro ws hS
            refine hK.out _ _ (by first | exact ((hS.sx0.cons hS (by (repeat constructor))).cons hS (by (repeat constructor))) | exact Sx.le (by assumption) ((hS.sx0.cons hS (by (repeat constructor))).cons hS (by (repeat constructor)))) (fun hHeld => ?_)
            clear hK K
            try simp only [Act.put, nz1, nz2, nz3]
            focus (refine takeN 19 (v := ?_) rfl (by kernel_rfl) ?_ ?_; rotate_left; focus (intro w hSw; clear hSw; go_simp; try with_reducible rfl))
            try simp only [Act.put, nz1, nz2, nz3]
            refine wpAnyH_done (by kernel_rfl) ?_ _
            refine NoPanic.normal ?_
        all_goals
          clear hle ew1
          go_wp2_with (first
    | ((with_reducible refine' Wl.out ?_; apply wl_box (ty := 44) (y := (.tmp 0)) hS); (· (first | (go_simp; done) | (go_simp; with_reducible rfl))); (· exact rfl); clear hS; intro w3 b3 hS)
    | ((with_reducible refine' Wl.out ?_; apply wl_box (ty := 70) (y := (.tmp 1)) hS); (· (first | (go_simp; done) | (go_simp; with_reducible rfl))); (· exact rfl); clear hS; intro w4 b4 hS)
    | ((with_reducible refine' Wl.out ?_; apply wl_alloc (ty := 44) (dst := some 6) hS (.agg #[.slice none 0 0, .slice none 0 0, .int .i64 0, .bool false]) [.slice none 0 0, .slice none 0 0, .int .i64 0, .bool false]); (· kernel_rfl); (· rfl); clear hS; intro w6 b6 hS)
    | ((with_reducible refine' Wl.out ?_; apply wl_alloc (ty := 70) (dst := some 7) hS (.agg #[.int .i64 0, .int .i64 0, .int .i64 0, .int .i64 0, .int .i64 0]) [.int .i64 0, .int .i64 0, .int .i64 0, .int .i64 0, .int .i64 0]); (· kernel_rfl); (· rfl); clear hS; intro w7 b7 hS)
    | ((with_reducible refine' Wl.out ?_; apply wl_alloc (ty := 44) (dst := some 12) hS (.agg #[.slice none 0 0, .slice none 0 0, .int .i64 0, .bool false]) [.slice none 0 0, .slice none 0 0, .int .i64 0, .bool false]); (· kernel_rfl); (· rfl); clear hS; intro w12 b12 hS)
    | ((with_reducible refine' Wl.out ?_; apply wl_load hS); (· (first | exact Try.underlying2 | exact Try.underlying3)); (· exact rfl); (· exact rfl); (· (first | (apply Find.box; (· (repeat constructor)); rfl) | exact Find.mem (by assumption) | (apply Find.row; (· (repeat constructor)); assumption))))
    | ((with_reducible refine' Wl.out ?_; apply wg_load hS); (· (first | exact Try.underlying2 | exact Try.underlying3)); (· exact rfl); (· (first | rfl | (go_simp; done))); (· exact rfl); (· (first | (apply Find.box; (· (repeat constructor)); rfl) | exact Find.mem (by assumption) | (apply Find.row; (· (repeat constructor)); assumption))))
    | ((with_reducible refine' Wl.out ?_; apply wl_loads hS); (· (first | exact rowT44 | exact rowT70)); (· exact rfl); (· (first | (apply Finds.box; (· (repeat constructor)); (· (repeat constructor)); done) | (refine Finds.mem2 (by assumption) ?_; first | rfl | assumption | (simp; done)) | (apply Finds.row; (· (repeat constructor)); (· assumption); (· rfl)))))
    | ((with_reducible refine' Wl.out ?_; apply wg_loads hS); (· (first | exact rowT44 | exact rowT70)); (· (first | rfl | (go_simp; done))); (· exact rfl); (· (first | (apply Finds.box; (· (repeat constructor)); (· (repeat constructor)); done) | (refine Finds.mem2 (by assumption) ?_; first | rfl | assumption | (simp; done)) | (apply Finds.row; (· (repeat constructor)); (· assumption); (· rfl)))))
    | ((with_reducible refine' Wl.out ?_); (with_reducible refine' wg_case ?_ ?_) <;> (intro hgW; (try (have hg2 := hgW; simp [go_sem] at hg2)); (first | (exfalso; assumption) | ((with_reducible refine' Wl.out ?_; apply wl_unwanted); (· exact hgW)) | ((with_reducible refine' Wl.out ?_; apply wg_load hS); (· (first | exact Try.underlying2 | exact Try.underlying3)); (· exact rfl); (· exact hgW); (· exact rfl); (· (first | (apply Find.box; (· (repeat constructor)); rfl) | exact Find.mem (by assumption) | (apply Find.row; (· (repeat constructor)); assumption)))) | ((with_reducible refine' Wl.out ?_; apply wg_loads hS); (· (first | exact rowT44 | exact rowT70)); (· exact hgW); (· exact rfl); (· (first | (apply Finds.box; (· (repeat constructor)); (· (repeat constructor)); done) | (refine Finds.mem2 (by assumption) ?_; first | rfl | assumption | (simp; done)) | (apply Finds.row; (· (repeat constructor)); (· assumption); (· rfl)))))); clear hgW))
    | ((with_reducible refine' Wl.out ?_; apply wl_store hS); (· (first | exact rowT2 | exact rowT3)); (· exact rfl); (· (first | (go_simp; done) | (go_simp; with_reducible rfl))); (· (first | rfl | assumption | (simp [Value.oneCell']; done))); (· (repeat constructor)); (· (repeat constructor)); (· (repeat constructor)); clear hS; intro ws hS)
    | ((with_reducible refine' Wl.out ?_; apply wl_storeR hS); (· (first | exact rowT2 | exact rowT3)); (· exact rfl); (· (first | (go_simp; done) | (go_simp; with_reducible rfl))); (· (first | rfl | assumption | (simp [Value.oneCell']; done))); (· (repeat constructor)); (· (first | assumption | omega | (simp; omega))); clear hS; intro ws hS)
    | ((with_reducible refine' Wl.out ?_; apply wl_stores hS); (· (first | exact rowT44 | exact rowT70)); (· exact rfl); (· exact rfl); (· exact rfl); (· (first | assumption | (simp [Value.oneCell']; done))); (· (repeat constructor)); (· (repeat constructor)); (· (repeat constructor)); clear hS; intro ws hS))
          · have hst := appGo_step (g := ⟨b, s, g, p, n⟩) (text := []) (parts := 1) (n := 1) (i := 0) (d := D) (D := D72) (e := E72) (by decide) (HD72.out.trans (by rw [HY71.out]; simp [chunkOf])) (HE72.out.trans (by rw [HY71.out]; simp [chunkOf]))
            have he : E72 ≠ 0 := by simp_all
            have hR2 : R = (D72, E72) := HGO.out.symm.trans (hst.2 he)
            refine ret_cells2 (n := 4) (k := 5) rfl rfl rfl hS (by (repeat constructor)) (by (repeat constructor)) rfl rfl dkRow lgRow rfl ?_
            rw [app_end1 (text := []) (P := 1) HE.out HP.out (HR.out.symm.trans hR2) he]
            exact ⟨_, _, rfl, ⟨_, rfl, R72.out⟩, hS.done⟩
          · have hst := appGo_step (g := ⟨b, s, g, p, n⟩) (text := []) (parts := 1) (n := 1) (i := 0) (d := D) (D := D72) (e := E72) (by decide) (HD72.out.trans (by rw [HY71.out]; simp [chunkOf])) (HE72.out.trans (by rw [HY71.out]; simp [chunkOf]))
            have he : E72 = 0 := by simp_all
            have HGO2 := Lib.hid ((hst.1 he).symm.trans HGO.out)
            clear hst
            go_roundw
            case rel => exact ⟨1, D72, _, _, _, _, _, Nat.le_refl _, rfl, HGO2, R72, hS.forget (x := .box b12 _) (by (repeat constructor))⟩
            case measure => first | (simp [intOf]; done) | (simp [intOf]; omega)
      · obtain rfl : k = 1 := by omega
        have hR2 : R = (D, 0) := by have := HGO.out; rw [Nat.sub_self] at this; exact this.symm
        have HR2 := Lib.hid hR2
        clear hR2 HGO
        go_wp2_with (first
    | ((with_reducible refine' Wl.out ?_; apply wl_box (ty := 44) (y := (.tmp 0)) hS); (· (first | (go_simp; done) | (go_simp; with_reducible rfl))); (· exact rfl); clear hS; intro w3 b3 hS)
    | ((with_reducible refine' Wl.out ?_; apply wl_box (ty := 70) (y := (.tmp 1)) hS); (· (first | (go_simp; done) | (go_simp; with_reducible rfl))); (· exact rfl); clear hS; intro w4 b4 hS)
    | ((with_reducible refine' Wl.out ?_; apply wl_alloc (ty := 44) (dst := some 6) hS (.agg #[.slice none 0 0, .slice none 0 0, .int .i64 0, .bool false]) [.slice none 0 0, .slice none 0 0, .int .i64 0, .bool false]); (· kernel_rfl); (· rfl); clear hS; intro w6 b6 hS)
    | ((with_reducible refine' Wl.out ?_; apply wl_alloc (ty := 70) (dst := some 7) hS (.agg #[.int .i64 0, .int .i64 0, .int .i64 0, .int .i64 0, .int .i64 0]) [.int .i64 0, .int .i64 0, .int .i64 0, .int .i64 0, .int .i64 0]); (· kernel_rfl); (· rfl); clear hS; intro w7 b7 hS)
    | ((with_reducible refine' Wl.out ?_; apply wl_alloc (ty := 44) (dst := some 12) hS (.agg #[.slice none 0 0, .slice none 0 0, .int .i64 0, .bool false]) [.slice none 0 0, .slice none 0 0, .int .i64 0, .bool false]); (· kernel_rfl); (· rfl); clear hS; intro w12 b12 hS)
    | ((with_reducible refine' Wl.out ?_; apply wl_load hS); (· (first | exact Try.underlying2 | exact Try.underlying3)); (· exact rfl); (· exact rfl); (· (first | (apply Find.box; (· (repeat constructor)); rfl) | exact Find.mem (by assumption) | (apply Find.row; (· (repeat constructor)); assumption))))
    | ((with_reducible refine' Wl.out ?_; apply wg_load hS); (· (first | exact Try.underlying2 | exact Try.underlying3)); (· exact rfl); (· (first | rfl | (go_simp; done))); (· exact rfl); (· (first | (apply Find.box; (· (repeat constructor)); rfl) | exact Find.mem (by assumption) | (apply Find.row; (· (repeat constructor)); assumption))))
    | ((with_reducible refine' Wl.out ?_; apply wl_loads hS); (· (first | exact rowT44 | exact rowT70)); (· exact rfl); (· (first | (apply Finds.box; (· (repeat constructor)); (· (repeat constructor)); done) | (refine Finds.mem2 (by assumption) ?_; first | rfl | assumption | (simp; done)) | (apply Finds.row; (· (repeat constructor)); (· assumption); (· rfl)))))
    | ((with_reducible refine' Wl.out ?_; apply wg_loads hS); (· (first | exact rowT44 | exact rowT70)); (· (first | rfl | (go_simp; done))); (· exact rfl); (· (first | (apply Finds.box; (· (repeat constructor)); (· (repeat constructor)); done) | (refine Finds.mem2 (by assumption) ?_; first | rfl | assumption | (simp; done)) | (apply Finds.row; (· (repeat constructor)); (· assumption); (· rfl)))))
    | ((with_reducible refine' Wl.out ?_); (with_reducible refine' wg_case ?_ ?_) <;> (intro hgW; (try (have hg2 := hgW; simp [go_sem] at hg2)); (first | (exfalso; assumption) | ((with_reducible refine' Wl.out ?_; apply wl_unwanted); (· exact hgW)) | ((with_reducible refine' Wl.out ?_; apply wg_load hS); (· (first | exact Try.underlying2 | exact Try.underlying3)); (· exact rfl); (· exact hgW); (· exact rfl); (· (first | (apply Find.box; (· (repeat constructor)); rfl) | exact Find.mem (by assumption) | (apply Find.row; (· (repeat constructor)); assumption)))) | ((with_reducible refine' Wl.out ?_; apply wg_loads hS); (· (first | exact rowT44 | exact rowT70)); (· exact hgW); (· exact rfl); (· (first | (apply Finds.box; (· (repeat constructor)); (· (repeat constructor)); done) | (refine Finds.mem2 (by assumption) ?_; first | rfl | assumption | (simp; done)) | (apply Finds.row; (· (repeat constructor)); (· assumption); (· rfl)))))); clear hgW))
    | ((with_reducible refine' Wl.out ?_; apply wl_store hS); (· (first | exact rowT2 | exact rowT3)); (· exact rfl); (· (first | (go_simp; done) | (go_simp; with_reducible rfl))); (· (first | rfl | assumption | (simp [Value.oneCell']; done))); (· (repeat constructor)); (· (repeat constructor)); (· (repeat constructor)); clear hS; intro ws hS)
    | ((with_reducible refine' Wl.out ?_; apply wl_storeR hS); (· (first | exact rowT2 | exact rowT3)); (· exact rfl); (· (first | (go_simp; done) | (go_simp; with_reducible rfl))); (· (first | rfl | assumption | (simp [Value.oneCell']; done))); (· (repeat constructor)); (· (first | assumption | omega | (simp; omega))); clear hS; intro ws hS)
    | ((with_reducible refine' Wl.out ?_; apply wl_stores hS); (· (first | exact rowT44 | exact rowT70)); (· exact rfl); (· exact rfl); (· exact rfl); (· (first | assumption | (simp [Value.oneCell']; done))); (· (repeat constructor)); (· (repeat constructor)); (· (repeat constructor)); clear hS; intro ws hS)
    | (go_at_call 45; (fail_if_success (clear Mk84)); refine (letDE (rflush_c _ _ hS.inw _ _ (by first | exact A0.out | exact A1.out | exact A2.out | exact R72.out | exact R84.out | exact dkL_dry A0.out | exact dkL_dry A1.out | exact dkL_dry A2.out | exact dkL_dry R72.out | exact dkL_dry R84.out | exact Lay.nil_rd _ _))).mono ?_; rintro e' w84 ⟨_, m84, rfl, ⟨p84, c84, q84, a84, D84, E84, HD84, HE84, rfl, R84⟩, hk⟩; replace hS := hS.call hk; (try replace A0 := Lib.hid (Lay.mono _ hk.le A0.out)); (try replace A1 := Lib.hid (Lay.mono _ hk.le A1.out)); (try replace A2 := Lib.hid (Lay.mono _ hk.le A2.out)); (try replace R72 := Lib.hid (Lay.mono _ hk.le R72.out)); (try replace R84 := Lib.hid (Lay.mono _ hk.le R84.out)); clear hk; have Mk84 := True.intro))
        · have he : E84 ≠ 0 := by simp_all
          refine ret_cells2 (n := 4) (k := 5) rfl rfl rfl hS (by (repeat constructor)) (by (repeat constructor)) rfl rfl dkRow lgRow rfl ?_
          rw [app_end2 (text := []) (P := 1) HE.out HP.out (HR.out.symm.trans HR2.out) (by rw [← HE84.out]; exact he), ← HD84.out, ← HE84.out]
          exact ⟨_, _, rfl, ⟨_, rfl, R84.out⟩, hS.done⟩
        have he : E84 = 0 := by simp_all
        have HE0 := Lib.hid he
        clear he
        replace hS := hS.drew
        refine startL (S := Sx _ [(b3, _), (b4, _)]) (by kernel_rfl) ((hS.sx0.cons hS (by (repeat constructor))).cons hS (by (repeat constructor))) (fun _ _ _ _ => trivial) (fun hHeld => ?_)
        refine takeN 0 rfl (by kernel_rfl) (yield_loads rfl rowT44 rfl (by (first | (apply FindsX.box; (· (repeat constructor)); (· (repeat constructor)); done) | (refine FindsX.mem (by assumption) ?_; first | rfl | assumption | (simp; done))))) ?_
        try simp only [Act.put, nz1, nz2, nz3]
        refine takeN 1 rfl (by kernel_rfl) (yield_loads rfl rowT70 rfl (by (first | (apply FindsX.box; (· (repeat constructor)); (· (repeat constructor)); done) | (refine FindsX.mem (by assumption) ?_; first | rfl | assumption | (simp; done))))) ?_
        try simp only [Act.put, nz1, nz2, nz3]
        refine wpAnyH_ready (rs := [2]) (by kernel_rfl) (by simp) ?_
        refine consL 2 rfl (fun K hK => ?_) AllReadyH.nil
        (with_reducible apply s_stores hS); (· exact rowT44); (· exact rfl); (· exact rfl); (· exact rfl); (· (first | assumption | (simp [Value.oneCell']; done))); (· (repeat constructor)); (· (repeat constructor)); (· (repeat constructor)); clear hS; intro ws hS
        refine hK.out _ _ (by first | exact ((hS.sx0.cons hS (by (repeat constructor))).cons hS (by (repeat constructor))) | exact Sx.le (by assumption) ((hS.sx0.cons hS (by (repeat constructor))).cons hS (by (repeat constructor)))) (fun hHeld => ?_)
        clear hK K
        try simp only [Act.put, nz1, nz2, nz3]
        refine wpAnyH_ready (rs := [3]) (by kernel_rfl) (by simp) ?_
        refine consL 3 rfl (fun K hK => ?_) AllReadyH.nil
        (with_reducible apply s_stores hS); (· exact rowT70); (· exact rfl); (· exact rfl); (· exact rfl); (· (first | assumption | (simp [Value.oneCell']; done))); (· (repeat constructor)); (· (repeat constructor)); (· (repeat constructor)); clear hS; intro ws hS
        refine hK.out _ _ (by first | exact ((hS.sx0.cons hS (by (repeat constructor))).cons hS (by (repeat constructor))) | exact Sx.le (by assumption) ((hS.sx0.cons hS (by (repeat constructor))).cons hS (by (repeat constructor)))) (fun hHeld => ?_)
        clear hK K
        try simp only [Act.put, nz1, nz2, nz3]
        focus (refine takeN 4 (v := ?_) rfl (by kernel_rfl) ?_ ?_; rotate_left; focus (intro w hSw; clear hSw; go_simp; try with_reducible rfl))
        try simp only [Act.put, nz1, nz2, nz3]
        refine wpAnyH_done (by kernel_rfl) ?_ _
        refine NoPanic.normal ?_
        all_goals
          go_wp2_with (first
    | ((with_reducible refine' Wl.out ?_; apply wl_box (ty := 44) (y := (.tmp 0)) hS); (· (first | (go_simp; done) | (go_simp; with_reducible rfl))); (· exact rfl); clear hS; intro w3 b3 hS)
    | ((with_reducible refine' Wl.out ?_; apply wl_box (ty := 70) (y := (.tmp 1)) hS); (· (first | (go_simp; done) | (go_simp; with_reducible rfl))); (· exact rfl); clear hS; intro w4 b4 hS)
    | ((with_reducible refine' Wl.out ?_; apply wl_alloc (ty := 44) (dst := some 6) hS (.agg #[.slice none 0 0, .slice none 0 0, .int .i64 0, .bool false]) [.slice none 0 0, .slice none 0 0, .int .i64 0, .bool false]); (· kernel_rfl); (· rfl); clear hS; intro w6 b6 hS)
    | ((with_reducible refine' Wl.out ?_; apply wl_alloc (ty := 70) (dst := some 7) hS (.agg #[.int .i64 0, .int .i64 0, .int .i64 0, .int .i64 0, .int .i64 0]) [.int .i64 0, .int .i64 0, .int .i64 0, .int .i64 0, .int .i64 0]); (· kernel_rfl); (· rfl); clear hS; intro w7 b7 hS)
    | ((with_reducible refine' Wl.out ?_; apply wl_alloc (ty := 44) (dst := some 12) hS (.agg #[.slice none 0 0, .slice none 0 0, .int .i64 0, .bool false]) [.slice none 0 0, .slice none 0 0, .int .i64 0, .bool false]); (· kernel_rfl); (· rfl); clear hS; intro w12 b12 hS)
    | ((with_reducible refine' Wl.out ?_; apply wl_load hS); (· (first | exact Try.underlying2 | exact Try.underlying3)); (· exact rfl); (· exact rfl); (· (first | (apply Find.box; (· (repeat constructor)); rfl) | exact Find.mem (by assumption) | (apply Find.row; (· (repeat constructor)); assumption))))
    | ((with_reducible refine' Wl.out ?_; apply wg_load hS); (· (first | exact Try.underlying2 | exact Try.underlying3)); (· exact rfl); (· (first | rfl | (go_simp; done))); (· exact rfl); (· (first | (apply Find.box; (· (repeat constructor)); rfl) | exact Find.mem (by assumption) | (apply Find.row; (· (repeat constructor)); assumption))))
    | ((with_reducible refine' Wl.out ?_; apply wl_loads hS); (· (first | exact rowT44 | exact rowT70)); (· exact rfl); (· (first | (apply Finds.box; (· (repeat constructor)); (· (repeat constructor)); done) | (refine Finds.mem2 (by assumption) ?_; first | rfl | assumption | (simp; done)) | (apply Finds.row; (· (repeat constructor)); (· assumption); (· rfl)))))
    | ((with_reducible refine' Wl.out ?_; apply wg_loads hS); (· (first | exact rowT44 | exact rowT70)); (· (first | rfl | (go_simp; done))); (· exact rfl); (· (first | (apply Finds.box; (· (repeat constructor)); (· (repeat constructor)); done) | (refine Finds.mem2 (by assumption) ?_; first | rfl | assumption | (simp; done)) | (apply Finds.row; (· (repeat constructor)); (· assumption); (· rfl)))))
    | ((with_reducible refine' Wl.out ?_); (with_reducible refine' wg_case ?_ ?_) <;> (intro hgW; (try (have hg2 := hgW; simp [go_sem] at hg2)); (first | (exfalso; assumption) | ((with_reducible refine' Wl.out ?_; apply wl_unwanted); (· exact hgW)) | ((with_reducible refine' Wl.out ?_; apply wg_load hS); (· (first | exact Try.underlying2 | exact Try.underlying3)); (· exact rfl); (· exact hgW); (· exact rfl); (· (first | (apply Find.box; (· (repeat constructor)); rfl) | exact Find.mem (by assumption) | (apply Find.row; (· (repeat constructor)); assumption)))) | ((with_reducible refine' Wl.out ?_; apply wg_loads hS); (· (first | exact rowT44 | exact rowT70)); (· exact hgW); (· exact rfl); (· (first | (apply Finds.box; (· (repeat constructor)); (· (repeat constructor)); done) | (refine Finds.mem2 (by assumption) ?_; first | rfl | assumption | (simp; done)) | (apply Finds.row; (· (repeat constructor)); (· assumption); (· rfl)))))); clear hgW))
    | ((with_reducible refine' Wl.out ?_; apply wl_store hS); (· (first | exact rowT2 | exact rowT3)); (· exact rfl); (· (first | (go_simp; done) | (go_simp; with_reducible rfl))); (· (first | rfl | assumption | (simp [Value.oneCell']; done))); (· (repeat constructor)); (· (repeat constructor)); (· (repeat constructor)); clear hS; intro ws hS)
    | ((with_reducible refine' Wl.out ?_; apply wl_storeR hS); (· (first | exact rowT2 | exact rowT3)); (· exact rfl); (· (first | (go_simp; done) | (go_simp; with_reducible rfl))); (· (first | rfl | assumption | (simp [Value.oneCell']; done))); (· (repeat constructor)); (· (first | assumption | omega | (simp; omega))); clear hS; intro ws hS)
    | ((with_reducible refine' Wl.out ?_; apply wl_stores hS); (· (first | exact rowT44 | exact rowT70)); (· exact rfl); (· exact rfl); (· exact rfl); (· (first | assumption | (simp [Value.oneCell']; done))); (· (repeat constructor)); (· (repeat constructor)); (· (repeat constructor)); clear hS; intro ws hS))
          have he := HE0.out
          refine ret_cells2 (n := 4) (k := 5) rfl rfl rfl hS (by (repeat constructor)) (by (repeat constructor)) rfl rfl dkRow lgRow rfl ?_
          rw [app_end3 (text := []) (P := 1) HE.out HP.out (HR.out.symm.trans HR2.out) (by rw [← HE84.out]; exact he), ← HD84.out]
          exact ⟨_, _, rfl, ⟨_, rfl, R84.out⟩, hS.done⟩
/-- the reference's Append, whatever comes in. -/
theorem rjappend_c (m : Mem) (w : World) (hm : m.In w) (cs : List Value) (d : Dk) (hd : dkL.rd m cs d) (b s g p n : Int) (vt : Value) (text : List Int) (ht : bytesL.rd m [vt] text) :
    Calls Try.prog 55 #[.agg cs.toArray, .agg ([.int .i64 b, .int .i64 s, .int .i64 g, .int .i64 p, .int .i64 n] : List Value).toArray, vt] w (RetDLE w m (appR d ⟨b, s, g, p, n⟩ text)) := by
  by_cases h0 : app0 d ⟨b, s, g, p, n⟩ text.length = 0
  · rcases Nat.eq_zero_or_pos text.length with h | h
    · have := List.eq_nil_of_length_eq_zero h
      subst this
      exact rjappend_0 m w hm cs d hd b s g p n vt ht h0
    · exact rjappend_yes m w hm cs d hd b s g p n vt text ht h0 h
  · exact rjappend_no m w hm cs d hd b s g p n vt text ht h0
end Go.Proofs.Ytnmgiiaejpaeeaa
