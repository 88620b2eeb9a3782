/- The walk of ModelApart, who asks second may not. -/
import Derived.Test.YtdeeclnjkjapcaaDoorMd20G
import Derived.Test.YtdeeclnjkjapcaaDoorMd3G
namespace Go.Proofs.YtdeeclnjkjapcaaDoor
set_option linter.unusedVariables false
set_option linter.unusedSimpArgs false
open Go.RowKit Go.Shelf
set_option maxRecDepth 100000 in
set_option maxHeartbeats 8000000 in
theorem walkMA7 (w : World) (hG : ShAt (World.mem w)) (vm : Value) (M : Md) (hM : ∃ q c, vm = .agg #[.int .i64 M.cap, .int .i64 M.dim, .slice q M.l.length c] ∧ itL.list.rd (World.mem w) [.slice q M.l.length c] M.l) (va : Value) (a : Ak) (ha : ∃ q c, va = .agg #[.int .i64 a.kind, .int .i64 a.id, .int .i64 a.k, .int .i64 a.seed, .slice q a.v.length c] ∧ InK .i64 a.id ∧ InK .i64 a.seed ∧ vecL.rd (World.mem w) [.slice q a.v.length c] a.v) (vb : Value) (b : Ak) (hb : ∃ q c, vb = .agg #[.int .i64 b.kind, .int .i64 b.id, .int .i64 b.k, .int .i64 b.seed, .slice q b.v.length c] ∧ InK .i64 b.id ∧ InK .i64 b.seed ∧ vecL.rd (World.mem w) [.slice q b.v.length c] b.v) (h1 : ¬ (300 : Int) < a.v.length) (h2 : ¬ (300 : Int) < b.v.length) (h3 : (a.id == b.id) = false) (h4 : ¬ (3 : Int) < a.kind) (h5 : ¬ (3 : Int) < b.kind) (K1 : Hid (doE M a = 0)) (K2 : Hid (doE M b = 1)) :
    Calls Tryd.prog 4 #[vm, va, vb] w fun e w' => e = .returned (.bool true) ∧ Below w.heap.size w w' := by
  obtain ⟨qm, cm, rfl, hM⟩ := hM
  obtain ⟨pv, cv, rfl, i1, i2, ha⟩ := ha
  obtain ⟨pu, cu, rfl, j1, j2, hb⟩ := hb
  have hS := St.start (World.mem_in w)
  have HG := Lib.hid hG
  have HI := Lib.hid i1
  have HI2 := Lib.hid i2
  have HJ := Lib.hid j1
  have HJ2 := Lib.hid j2
  have A0 := Lib.hid hM
  have A1 := Lib.hid ha
  have A2 := Lib.hid hb
  clear hG hM ha hb i1 i2 j1 j2
  go_enter Tryd.func4, Tryd.ntmps4
  go_wp2_with (first
    | ((with_reducible refine' Wl.out ?_; apply k_box hS); (· exact .mk); clear hS; intro _ _ hS)
    | ((with_reducible refine' Wl.out ?_; apply k_alloc hS); (· exact .mk); clear hS; intro _ _ hS)
    | ((with_reducible refine' Wl.out ?_; apply k_load hS); (· exact .mk))
    | ((with_reducible refine' Wl.out ?_; apply k_loads hS); (· exact .mk))
    | go_skip
    | ((with_reducible refine' Wl.out ?_; apply kg_load hS); iterate 2 (· exact .mk))
    | ((with_reducible refine' Wl.out ?_; apply kg_loads hS); iterate 2 (· exact .mk))
    | ((with_reducible refine' Wl.out ?_; refine' wg_case ?_ ?_) <;> (intro hgW; (try (have hg2 := hgW; simp [go_sem] at hg2)); (first | (exfalso; assumption) | ((with_reducible refine' Wl.out ?_; apply k_no hgW)) | ((with_reducible refine' Wl.out ?_; apply kg_load hS ⟨hgW⟩); (· exact .mk)) | ((with_reducible refine' Wl.out ?_; apply kg_loads hS ⟨hgW⟩); (· exact .mk))); clear hgW))
    | ((with_reducible refine' Wl.out ?_; apply k_stores hS); (· exact .mk); clear hS; intro ws hS)
    | (go_at_call 7; have hm := Mk72; clear hm; (fail_if_success (clear Mk81)); refine (do_w _ _ hS.inw (ShAt.mono hS.le HG.out) _ _ _ A0.out _ _ _ _ [] _ _ (Lay.nil_rd _ _) (by decide) HJ.out (by decide)).mono ?_; rintro e' w81 ⟨_, m81, rfl, ⟨T81, P81, E81, q81, c81, qv81, cv81, qh81, ch81, HT81, HP81, HE81, rfl, R81, V81, H81⟩, hk⟩; replace hS := hS.call hk; (try replace A0 := Lib.hid (Lay.mono _ hk.le A0.out)); (try replace A1 := Lib.hid (Lay.mono _ hk.le A1.out)); (try replace A2 := Lib.hid (Lay.mono _ hk.le A2.out)); (try replace R65 := Lib.hid (Lay.mono _ hk.le R65.out)); (try replace R72 := Lib.hid (Lay.mono _ hk.le R72.out)); (try replace R81 := Lib.hid (Lay.mono _ hk.le R81.out)); (try replace R101 := Lib.hid (Lay.mono _ hk.le R101.out)); (try replace R116 := Lib.hid (Lay.mono _ hk.le R116.out)); (try replace V65 := Lib.hid (Lay.mono _ hk.le V65.out)); (try replace V72 := Lib.hid (Lay.mono _ hk.le V72.out)); (try replace V81 := Lib.hid (Lay.mono _ hk.le V81.out)); (try replace V101 := Lib.hid (Lay.mono _ hk.le V101.out)); (try replace H81 := Lib.hid (Lay.mono _ hk.le H81.out)); (try replace H101 := Lib.hid (Lay.mono _ hk.le H101.out)); clear hk; skip; have Mk81 := True.intro)
    | (go_at_call 7; have hm := Mk65; clear hm; (fail_if_success (clear Mk72)); refine (do_w _ _ hS.inw (ShAt.mono hS.le HG.out) _ _ _ A0.out _ _ _ _ _ _ _ A2.out HJ2.out.2 HJ.out (by omega)).mono ?_; rintro e' w72 ⟨_, m72, rfl, ⟨T72, P72, E72, q72, c72, qv72, cv72, qh72, ch72, HT72, HP72, HE72, rfl, R72, V72, H72⟩, hk⟩; replace hS := hS.call hk; (try replace A0 := Lib.hid (Lay.mono _ hk.le A0.out)); (try replace A1 := Lib.hid (Lay.mono _ hk.le A1.out)); (try replace A2 := Lib.hid (Lay.mono _ hk.le A2.out)); (try replace R65 := Lib.hid (Lay.mono _ hk.le R65.out)); (try replace R72 := Lib.hid (Lay.mono _ hk.le R72.out)); (try replace R81 := Lib.hid (Lay.mono _ hk.le R81.out)); (try replace R101 := Lib.hid (Lay.mono _ hk.le R101.out)); (try replace R116 := Lib.hid (Lay.mono _ hk.le R116.out)); (try replace V65 := Lib.hid (Lay.mono _ hk.le V65.out)); (try replace V72 := Lib.hid (Lay.mono _ hk.le V72.out)); (try replace V81 := Lib.hid (Lay.mono _ hk.le V81.out)); (try replace V101 := Lib.hid (Lay.mono _ hk.le V101.out)); (try replace H81 := Lib.hid (Lay.mono _ hk.le H81.out)); (try replace H101 := Lib.hid (Lay.mono _ hk.le H101.out)); clear hk; obtain rfl : E72 = 1 := HE72.out.trans K2.out; have Mk72 := True.intro)
    | (go_at_call 7; (fail_if_success (clear Mk65)); refine (do_w _ _ hS.inw (ShAt.mono hS.le HG.out) _ _ _ A0.out _ _ _ _ _ _ _ A1.out HI2.out.2 HI.out (by omega)).mono ?_; rintro e' w65 ⟨_, m65, rfl, ⟨T65, P65, E65, q65, c65, qv65, cv65, qh65, ch65, HT65, HP65, HE65, rfl, R65, V65, H65⟩, hk⟩; replace hS := hS.call hk; (try replace A0 := Lib.hid (Lay.mono _ hk.le A0.out)); (try replace A1 := Lib.hid (Lay.mono _ hk.le A1.out)); (try replace A2 := Lib.hid (Lay.mono _ hk.le A2.out)); (try replace R65 := Lib.hid (Lay.mono _ hk.le R65.out)); (try replace R72 := Lib.hid (Lay.mono _ hk.le R72.out)); (try replace R81 := Lib.hid (Lay.mono _ hk.le R81.out)); (try replace R101 := Lib.hid (Lay.mono _ hk.le R101.out)); (try replace R116 := Lib.hid (Lay.mono _ hk.le R116.out)); (try replace V65 := Lib.hid (Lay.mono _ hk.le V65.out)); (try replace V72 := Lib.hid (Lay.mono _ hk.le V72.out)); (try replace V81 := Lib.hid (Lay.mono _ hk.le V81.out)); (try replace V101 := Lib.hid (Lay.mono _ hk.le V101.out)); (try replace H81 := Lib.hid (Lay.mono _ hk.le H81.out)); (try replace H101 := Lib.hid (Lay.mono _ hk.le H101.out)); clear hk; obtain rfl : E65 = 0 := HE65.out.trans K1.out; have Mk65 := True.intro)
    | (go_at_call 5; refine (live19_c _ _ hS.inw (ShAt.mono hS.le HG.out)).mono ?_; rintro e' w26 ⟨_, m26, rfl, rfl, hk⟩; replace hS := hS.grow (grownBy_of_below hk.below); clear hk)
    | (go_at_call 11; refine (mfew_c _ _ hS.inw _ _ M A0.out).mono ?_; rintro e' w30 ⟨_, m30, rfl, ⟨B, rfl⟩, hk⟩; replace hS := hS.grow (grownBy_of_below hk.below); clear hk; cases B))
  all_goals (first | (go_ret; exact ⟨rfl, hS.below⟩) | (go_ret; refine ⟨?_, hS.below⟩; simp; done))
end Go.Proofs.YtdeeclnjkjapcaaDoor
