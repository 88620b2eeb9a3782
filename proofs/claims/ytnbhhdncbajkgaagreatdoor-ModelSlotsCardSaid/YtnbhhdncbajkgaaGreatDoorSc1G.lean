/- scan: may; look. -/
import Derived.Test.YtnbhhdncbajkgaaGreatDoorSl3G
import Derived.Test.YtnbhhdncbajkgaaGreatDoorG3
namespace Go.Proofs.YtnbhhdncbajkgaaGreatDoor
set_option linter.unusedVariables false
set_option linter.unusedSimpArgs false
open Go.RowKit Go.Shelf
/-- Whether what is asked for may be. -/
def mayP (s : Sl) (q : List Int) (k : Int) : Prop := dirOK s ∧ fineV q ∧ (q.length : Int) = s.dim ∧ 1 ≤ k ∧ k ≤ s.ids.length
noncomputable instance (s : Sl) (q : List Int) (k : Int) : Decidable (mayP s q k) := Classical.propDecidable _
noncomputable def mayE (s : Sl) (q : List Int) (k : Int) : Int := if mayP s q k then 0 else 1
set_option maxRecDepth 100000 in
set_option maxHeartbeats 4000000 in
theorem smay_c (m : Mem) (w : World) (hm : m.In w) (q1 q2 : Option Addr) (c1 c2 : Nat) (s : Sl) (h : slL.rd m [.int .i64 s.dim, .slice q1 s.ids.length c1, .slice q2 s.vecs.length c2] s) (vq : Value) (q : List Int) (hq : vecL.rd m [vq] q) (k : Int) :
    Calls Tryz.prog 56 #[.agg #[.int .i64 s.dim, .slice q1 s.ids.length c1, .slice q2 s.vecs.length c2], vq, .int .i64 k] w (Ret w m fun v _ => v = .int .i64 (mayE s q k)) := by
  have hS := St.start hm
  have A0 := Lib.hid h
  have A1 := Lib.hid hq
  obtain ⟨p, c, rfl, _⟩ := Lay.list_open hq
  clear h hq
  have bad : ¬ mayP s q k → Hid (mayE s q k = 1) := fun h => if_neg h
  by_cases d1 : ¬ dirOK s
  · have hE := bad fun h => d1 h.1
    have h1 : Hid (chkS s = 1) := if_neg d1
    clear bad d1
    go_enter Tryz.func56, Tryz.ntmps56
    go_wp2_with (first
    | ((with_reducible refine' Wl.out ?_; apply k_box hS); (· exact .mk); clear hS; intro _ _ hS)
    | ((with_reducible refine' Wl.out ?_; apply k_load hS); (· exact .mk))
    | ((with_reducible refine' Wl.out ?_; apply k_loads hS); (· exact .mk))
    | go_skip
    | ((with_reducible refine' Wl.out ?_; apply kg_load hS); iterate 2 (· exact .mk))
    | ((with_reducible refine' Wl.out ?_; apply kg_loads hS); iterate 2 (· exact .mk))
    | ((with_reducible refine' Wl.out ?_; refine' wg_case ?_ ?_) <;> (intro hgW; (try (have hg2 := hgW; simp [go_sem] at hg2)); (first | (exfalso; assumption) | ((with_reducible refine' Wl.out ?_; apply k_no hgW)) | ((with_reducible refine' Wl.out ?_; apply kg_load hS ⟨hgW⟩); (· exact .mk)) | ((with_reducible refine' Wl.out ?_; apply kg_loads hS ⟨hgW⟩); (· exact .mk))); clear hgW))
    | (go_at_call 21; (fail_if_success (clear Mk8)); refine (letInt (scheck_c _ _ hS.inw _ _ _ _ (by first | exact A0.out | exact A1.out | exact dkL_dry A0.out | exact dkL_dry A1.out | exact Lay.nil_rd _ _))).mono ?_; rintro e' w8 ⟨_, m8, rfl, ⟨E8, HE8, rfl⟩, hk⟩; replace hS := hS.call hk; (try replace A0 := Lib.hid (Lay.mono _ hk.le A0.out)); (try replace A1 := Lib.hid (Lay.mono _ hk.le A1.out)); clear hk; obtain rfl : E8 = 1 := HE8.out.trans h1.out; have Mk8 := True.intro))
    go_ret
    exact ⟨_, _, rfl, by rw [hE.out]; rfl, hS.done⟩
  replace d1 := Classical.not_not.1 d1
  have h1 : Hid (chkS s = 0) := if_pos d1
  by_cases d2 : ¬ fineV q
  · have hE := bad fun h => d2 h.2.1
    have h2 : Hid (chkV q = 1) := if_neg d2
    clear bad d1 d2
    go_enter Tryz.func56, Tryz.ntmps56
    go_wp2_with (first
    | ((with_reducible refine' Wl.out ?_; apply k_box hS); (· exact .mk); clear hS; intro _ _ hS)
    | ((with_reducible refine' Wl.out ?_; apply k_load hS); (· exact .mk))
    | ((with_reducible refine' Wl.out ?_; apply k_loads hS); (· exact .mk))
    | go_skip
    | ((with_reducible refine' Wl.out ?_; apply kg_load hS); iterate 2 (· exact .mk))
    | ((with_reducible refine' Wl.out ?_; apply kg_loads hS); iterate 2 (· exact .mk))
    | ((with_reducible refine' Wl.out ?_; refine' wg_case ?_ ?_) <;> (intro hgW; (try (have hg2 := hgW; simp [go_sem] at hg2)); (first | (exfalso; assumption) | ((with_reducible refine' Wl.out ?_; apply k_no hgW)) | ((with_reducible refine' Wl.out ?_; apply kg_load hS ⟨hgW⟩); (· exact .mk)) | ((with_reducible refine' Wl.out ?_; apply kg_loads hS ⟨hgW⟩); (· exact .mk))); clear hgW))
    | (go_at_call 21; (fail_if_success (clear Mk8)); refine (letInt (scheck_c _ _ hS.inw _ _ _ _ (by first | exact A0.out | exact A1.out | exact dkL_dry A0.out | exact dkL_dry A1.out | exact Lay.nil_rd _ _))).mono ?_; rintro e' w8 ⟨_, m8, rfl, ⟨E8, HE8, rfl⟩, hk⟩; replace hS := hS.call hk; (try replace A0 := Lib.hid (Lay.mono _ hk.le A0.out)); (try replace A1 := Lib.hid (Lay.mono _ hk.le A1.out)); clear hk; obtain rfl : E8 = 0 := HE8.out.trans h1.out; have Mk8 := True.intro)
    | (go_at_call 45; (fail_if_success (clear Mk12)); refine (letInt (vcheck_c _ _ hS.inw _ _ (by first | exact A0.out | exact A1.out | exact dkL_dry A0.out | exact dkL_dry A1.out | exact Lay.nil_rd _ _))).mono ?_; rintro e' w12 ⟨_, m12, rfl, ⟨E12, HE12, rfl⟩, hk⟩; replace hS := hS.call hk; (try replace A0 := Lib.hid (Lay.mono _ hk.le A0.out)); (try replace A1 := Lib.hid (Lay.mono _ hk.le A1.out)); clear hk; obtain rfl : E12 = 1 := HE12.out.trans h2.out; have Mk12 := True.intro))
    go_ret
    exact ⟨_, _, rfl, by rw [hE.out]; rfl, hS.done⟩
  replace d2 := Classical.not_not.1 d2
  have h2 : Hid (chkV q = 0) := if_pos d2
  by_cases d3 : ¬ (q.length : Int) = s.dim
  · have hE := bad fun h => d3 h.2.2.1
    have h3 : ((q.length : Int) != s.dim) = true := by simp [d3]
    clear bad d1 d2 d3
    go_enter Tryz.func56, Tryz.ntmps56
    go_wp2_with (first
    | ((with_reducible refine' Wl.out ?_; apply k_box hS); (· exact .mk); clear hS; intro _ _ hS)
    | ((with_reducible refine' Wl.out ?_; apply k_load hS); (· exact .mk))
    | ((with_reducible refine' Wl.out ?_; apply k_loads hS); (· exact .mk))
    | go_skip
    | ((with_reducible refine' Wl.out ?_; apply kg_load hS); iterate 2 (· exact .mk))
    | ((with_reducible refine' Wl.out ?_; apply kg_loads hS); iterate 2 (· exact .mk))
    | ((with_reducible refine' Wl.out ?_; refine' wg_case ?_ ?_) <;> (intro hgW; (try (have hg2 := hgW; simp [go_sem] at hg2)); (first | (exfalso; assumption) | ((with_reducible refine' Wl.out ?_; apply k_no hgW)) | ((with_reducible refine' Wl.out ?_; apply kg_load hS ⟨hgW⟩); (· exact .mk)) | ((with_reducible refine' Wl.out ?_; apply kg_loads hS ⟨hgW⟩); (· exact .mk))); clear hgW))
    | (go_at_call 21; (fail_if_success (clear Mk8)); refine (letInt (scheck_c _ _ hS.inw _ _ _ _ (by first | exact A0.out | exact A1.out | exact dkL_dry A0.out | exact dkL_dry A1.out | exact Lay.nil_rd _ _))).mono ?_; rintro e' w8 ⟨_, m8, rfl, ⟨E8, HE8, rfl⟩, hk⟩; replace hS := hS.call hk; (try replace A0 := Lib.hid (Lay.mono _ hk.le A0.out)); (try replace A1 := Lib.hid (Lay.mono _ hk.le A1.out)); clear hk; obtain rfl : E8 = 0 := HE8.out.trans h1.out; have Mk8 := True.intro)
    | (go_at_call 45; (fail_if_success (clear Mk12)); refine (letInt (vcheck_c _ _ hS.inw _ _ (by first | exact A0.out | exact A1.out | exact dkL_dry A0.out | exact dkL_dry A1.out | exact Lay.nil_rd _ _))).mono ?_; rintro e' w12 ⟨_, m12, rfl, ⟨E12, HE12, rfl⟩, hk⟩; replace hS := hS.call hk; (try replace A0 := Lib.hid (Lay.mono _ hk.le A0.out)); (try replace A1 := Lib.hid (Lay.mono _ hk.le A1.out)); clear hk; obtain rfl : E12 = 0 := HE12.out.trans h2.out; have Mk12 := True.intro))
    go_ret
    exact ⟨_, _, rfl, by rw [hE.out]; rfl, hS.done⟩
  replace d3 := Classical.not_not.1 d3
  have h3 : ((q.length : Int) != s.dim) = false := by simp [d3]
  by_cases d4 : k < 1
  · have hE := bad fun h => by have := h.2.2.2.1; omega
    clear bad d1 d2 d3
    go_enter Tryz.func56, Tryz.ntmps56
    go_wp2_with (first
    | ((with_reducible refine' Wl.out ?_; apply k_box hS); (· exact .mk); clear hS; intro _ _ hS)
    | ((with_reducible refine' Wl.out ?_; apply k_load hS); (· exact .mk))
    | ((with_reducible refine' Wl.out ?_; apply k_loads hS); (· exact .mk))
    | go_skip
    | ((with_reducible refine' Wl.out ?_; apply kg_load hS); iterate 2 (· exact .mk))
    | ((with_reducible refine' Wl.out ?_; apply kg_loads hS); iterate 2 (· exact .mk))
    | ((with_reducible refine' Wl.out ?_; refine' wg_case ?_ ?_) <;> (intro hgW; (try (have hg2 := hgW; simp [go_sem] at hg2)); (first | (exfalso; assumption) | ((with_reducible refine' Wl.out ?_; apply k_no hgW)) | ((with_reducible refine' Wl.out ?_; apply kg_load hS ⟨hgW⟩); (· exact .mk)) | ((with_reducible refine' Wl.out ?_; apply kg_loads hS ⟨hgW⟩); (· exact .mk))); clear hgW))
    | (go_at_call 21; (fail_if_success (clear Mk8)); refine (letInt (scheck_c _ _ hS.inw _ _ _ _ (by first | exact A0.out | exact A1.out | exact dkL_dry A0.out | exact dkL_dry A1.out | exact Lay.nil_rd _ _))).mono ?_; rintro e' w8 ⟨_, m8, rfl, ⟨E8, HE8, rfl⟩, hk⟩; replace hS := hS.call hk; (try replace A0 := Lib.hid (Lay.mono _ hk.le A0.out)); (try replace A1 := Lib.hid (Lay.mono _ hk.le A1.out)); clear hk; obtain rfl : E8 = 0 := HE8.out.trans h1.out; have Mk8 := True.intro)
    | (go_at_call 45; (fail_if_success (clear Mk12)); refine (letInt (vcheck_c _ _ hS.inw _ _ (by first | exact A0.out | exact A1.out | exact dkL_dry A0.out | exact dkL_dry A1.out | exact Lay.nil_rd _ _))).mono ?_; rintro e' w12 ⟨_, m12, rfl, ⟨E12, HE12, rfl⟩, hk⟩; replace hS := hS.call hk; (try replace A0 := Lib.hid (Lay.mono _ hk.le A0.out)); (try replace A1 := Lib.hid (Lay.mono _ hk.le A1.out)); clear hk; obtain rfl : E12 = 0 := HE12.out.trans h2.out; have Mk12 := True.intro))
    go_ret
    exact ⟨_, _, rfl, by rw [hE.out]; rfl, hS.done⟩
  by_cases d5 : (s.ids.length : Int) < k
  · have hE := bad fun h => by have := h.2.2.2.2; omega
    clear bad d1 d2 d3
    go_enter Tryz.func56, Tryz.ntmps56
    go_wp2_with (first
    | ((with_reducible refine' Wl.out ?_; apply k_box hS); (· exact .mk); clear hS; intro _ _ hS)
    | ((with_reducible refine' Wl.out ?_; apply k_load hS); (· exact .mk))
    | ((with_reducible refine' Wl.out ?_; apply k_loads hS); (· exact .mk))
    | go_skip
    | ((with_reducible refine' Wl.out ?_; apply kg_load hS); iterate 2 (· exact .mk))
    | ((with_reducible refine' Wl.out ?_; apply kg_loads hS); iterate 2 (· exact .mk))
    | ((with_reducible refine' Wl.out ?_; refine' wg_case ?_ ?_) <;> (intro hgW; (try (have hg2 := hgW; simp [go_sem] at hg2)); (first | (exfalso; assumption) | ((with_reducible refine' Wl.out ?_; apply k_no hgW)) | ((with_reducible refine' Wl.out ?_; apply kg_load hS ⟨hgW⟩); (· exact .mk)) | ((with_reducible refine' Wl.out ?_; apply kg_loads hS ⟨hgW⟩); (· exact .mk))); clear hgW))
    | (go_at_call 21; (fail_if_success (clear Mk8)); refine (letInt (scheck_c _ _ hS.inw _ _ _ _ (by first | exact A0.out | exact A1.out | exact dkL_dry A0.out | exact dkL_dry A1.out | exact Lay.nil_rd _ _))).mono ?_; rintro e' w8 ⟨_, m8, rfl, ⟨E8, HE8, rfl⟩, hk⟩; replace hS := hS.call hk; (try replace A0 := Lib.hid (Lay.mono _ hk.le A0.out)); (try replace A1 := Lib.hid (Lay.mono _ hk.le A1.out)); clear hk; obtain rfl : E8 = 0 := HE8.out.trans h1.out; have Mk8 := True.intro)
    | (go_at_call 45; (fail_if_success (clear Mk12)); refine (letInt (vcheck_c _ _ hS.inw _ _ (by first | exact A0.out | exact A1.out | exact dkL_dry A0.out | exact dkL_dry A1.out | exact Lay.nil_rd _ _))).mono ?_; rintro e' w12 ⟨_, m12, rfl, ⟨E12, HE12, rfl⟩, hk⟩; replace hS := hS.call hk; (try replace A0 := Lib.hid (Lay.mono _ hk.le A0.out)); (try replace A1 := Lib.hid (Lay.mono _ hk.le A1.out)); clear hk; obtain rfl : E12 = 0 := HE12.out.trans h2.out; have Mk12 := True.intro))
    go_ret
    exact ⟨_, _, rfl, by rw [hE.out]; rfl, hS.done⟩
  have hE : Hid (mayE s q k = 0) := if_pos ⟨d1, d2, d3, by omega, by omega⟩
  clear bad d1 d2 d3
  go_enter Tryz.func56, Tryz.ntmps56
  go_wp2_with (first
    | ((with_reducible refine' Wl.out ?_; apply k_box hS); (· exact .mk); clear hS; intro _ _ hS)
    | ((with_reducible refine' Wl.out ?_; apply k_load hS); (· exact .mk))
    | ((with_reducible refine' Wl.out ?_; apply k_loads hS); (· exact .mk))
    | go_skip
    | ((with_reducible refine' Wl.out ?_; apply kg_load hS); iterate 2 (· exact .mk))
    | ((with_reducible refine' Wl.out ?_; apply kg_loads hS); iterate 2 (· exact .mk))
    | ((with_reducible refine' Wl.out ?_; refine' wg_case ?_ ?_) <;> (intro hgW; (try (have hg2 := hgW; simp [go_sem] at hg2)); (first | (exfalso; assumption) | ((with_reducible refine' Wl.out ?_; apply k_no hgW)) | ((with_reducible refine' Wl.out ?_; apply kg_load hS ⟨hgW⟩); (· exact .mk)) | ((with_reducible refine' Wl.out ?_; apply kg_loads hS ⟨hgW⟩); (· exact .mk))); clear hgW))
    | (go_at_call 21; (fail_if_success (clear Mk8)); refine (letInt (scheck_c _ _ hS.inw _ _ _ _ (by first | exact A0.out | exact A1.out | exact dkL_dry A0.out | exact dkL_dry A1.out | exact Lay.nil_rd _ _))).mono ?_; rintro e' w8 ⟨_, m8, rfl, ⟨E8, HE8, rfl⟩, hk⟩; replace hS := hS.call hk; (try replace A0 := Lib.hid (Lay.mono _ hk.le A0.out)); (try replace A1 := Lib.hid (Lay.mono _ hk.le A1.out)); clear hk; obtain rfl : E8 = 0 := HE8.out.trans h1.out; have Mk8 := True.intro)
    | (go_at_call 45; (fail_if_success (clear Mk12)); refine (letInt (vcheck_c _ _ hS.inw _ _ (by first | exact A0.out | exact A1.out | exact dkL_dry A0.out | exact dkL_dry A1.out | exact Lay.nil_rd _ _))).mono ?_; rintro e' w12 ⟨_, m12, rfl, ⟨E12, HE12, rfl⟩, hk⟩; replace hS := hS.call hk; (try replace A0 := Lib.hid (Lay.mono _ hk.le A0.out)); (try replace A1 := Lib.hid (Lay.mono _ hk.le A1.out)); clear hk; obtain rfl : E12 = 0 := HE12.out.trans h2.out; have Mk12 := True.intro))
  go_ret
  exact ⟨_, _, rfl, by rw [hE.out]; rfl, hS.done⟩
end Go.Proofs.YtnbhhdncbajkgaaGreatDoor
