/- The walk of ModelLast, full. -/
import Derived.Test.YtlkdjmpkapeppaaDoorG4
namespace Go.Proofs.YtlkdjmpkapeppaaDoor
set_option linter.unusedVariables false
set_option linter.unusedSimpArgs false
open Go.RowKit Go.Shelf
set_option maxRecDepth 100000 in
set_option maxHeartbeats 8000000 in
theorem walkML6 (w : World) (hG : ShAt (World.mem w)) (vm : Value) (M : Md) (hM : ∃ q c, vm = .agg #[.int .i64 M.cap, .int .i64 M.dim, .slice q M.l.length c] ∧ itL.list.rd (World.mem w) [.slice q M.l.length c] M.l) (z : Int) (hz : (Lit.int .i64 z).wf = true) (vv : Value) (v : List Int) (hv : vecL.rd (World.mem w) [vv] v) (vu : Value) (u : List Int) (hu : vecL.rd (World.mem w) [vu] u) (hb1 : ¬ (300 : Int) < v.length) (hb2 : ¬ (300 : Int) < u.length) (K1 : Hid (doE M (upA z v) = 0)) (K3 : Hid (doE M (upA z u) = 0)) (K2 : Hid ((doP M (upA z v)).e = 7)) (K4 : Hid ((doP M (upA z u)).e = 7)) :
    Calls Tryd.prog 4 #[vm, .int .i64 z, vv, vu] w fun e w' => e = .returned (.bool true) ∧ Below w.heap.size w w' := by
  obtain ⟨qm, cm, rfl, hM⟩ := hM
  have hS := St.start (World.mem_in w)
  have HG := Lib.hid hG
  have HZ : Hid (InK .i64 z) := by simp [Lit.wf] at hz; exact hz
  have A0 := Lib.hid hM
  have A1 := Lib.hid hv
  have A2 := Lib.hid hu
  obtain ⟨pv, cv, rfl, _⟩ := Lay.list_open hv
  obtain ⟨pu, cu, rfl, _⟩ := Lay.list_open hu
  clear hG hz hM hv hu
  go_enter Tryd.func4, Tryd.ntmps4
  go_wp2_with (first
    | ((with_reducible refine' Wl.out ?_; apply k_box hS); (· exact .mk); clear hS; intro _ _ hS)
    | ((with_reducible refine' Wl.out ?_; apply k_alloc hS); (· exact .mk); clear hS; intro _ _ hS)
    | ((with_reducible refine' Wl.out ?_; apply k_load hS); (· exact .mk))
    | ((with_reducible refine' Wl.out ?_; apply k_loads hS); (· exact .mk))
    | go_skip
    | ((with_reducible refine' Wl.out ?_; apply kg_load hS); iterate 2 (· exact .mk))
    | ((with_reducible refine' Wl.out ?_; apply kg_loads hS); iterate 2 (· exact .mk))
    | ((with_reducible refine' Wl.out ?_; refine' wg_case ?_ ?_) <;> (intro hgW; (try (have hg2 := hgW; simp [go_sem] at hg2)); (first | (exfalso; assumption) | ((with_reducible refine' Wl.out ?_; apply k_no hgW)) | ((with_reducible refine' Wl.out ?_; apply kg_load hS ⟨hgW⟩); (· exact .mk)) | ((with_reducible refine' Wl.out ?_; apply kg_loads hS ⟨hgW⟩); (· exact .mk))); clear hgW))
    | ((with_reducible refine' Wl.out ?_; apply k_stores hS); (· exact .mk); clear hS; intro ws hS)
    | (go_at_call 8; (fail_if_success (clear Mk50)); refine (do_w _ _ hS.inw (ShAt.mono hS.le HG.out) _ _ _ (by first | exact A0.out | exact A1.out | exact A2.out | exact R50.out | exact R59.out | exact R95.out | exact R116.out | exact R125.out | exact R133.out | exact dkL_dry A0.out | exact dkL_dry A1.out | exact dkL_dry A2.out | exact Lay.nil_rd _ _) _ _ _ _ _ _ _ (by first | exact A0.out | exact A1.out | exact A2.out | exact R50.out | exact R59.out | exact R95.out | exact R116.out | exact R125.out | exact R133.out | exact dkL_dry A0.out | exact dkL_dry A1.out | exact dkL_dry A2.out | exact Lay.nil_rd _ _) (by decide) HZ.out (by decide)).mono ?_; rintro e' w50 ⟨_, m50, rfl, ⟨T50, P50, E50, q50, c50, qv50, cv50, qh50, ch50, HT50, HP50, HE50, rfl, R50, V50, H50⟩, hk⟩; replace hS := hS.call hk; (try replace A0 := Lib.hid (Lay.mono _ hk.le A0.out)); (try replace A1 := Lib.hid (Lay.mono _ hk.le A1.out)); (try replace A2 := Lib.hid (Lay.mono _ hk.le A2.out)); (try replace R50 := Lib.hid (Lay.mono _ hk.le R50.out)); (try replace R59 := Lib.hid (Lay.mono _ hk.le R59.out)); (try replace R95 := Lib.hid (Lay.mono _ hk.le R95.out)); (try replace R116 := Lib.hid (Lay.mono _ hk.le R116.out)); (try replace R125 := Lib.hid (Lay.mono _ hk.le R125.out)); (try replace R133 := Lib.hid (Lay.mono _ hk.le R133.out)); clear hk; obtain rfl : E50 = 0 := HE50.out.trans K1.out; have e50 : P50.e = 7 := (by rw [HP50.out]; exact K2.out); have Mk50 := True.intro)
    | (go_at_call 8; (fail_if_success (clear Mk59)); refine (do_w _ _ hS.inw (ShAt.mono hS.le HG.out) _ _ _ (by first | exact A0.out | exact A1.out | exact A2.out | exact R50.out | exact R59.out | exact R95.out | exact R116.out | exact R125.out | exact R133.out | exact dkL_dry A0.out | exact dkL_dry A1.out | exact dkL_dry A2.out | exact Lay.nil_rd _ _) _ _ _ _ _ _ _ (by first | exact A0.out | exact A1.out | exact A2.out | exact R50.out | exact R59.out | exact R95.out | exact R116.out | exact R125.out | exact R133.out | exact dkL_dry A0.out | exact dkL_dry A1.out | exact dkL_dry A2.out | exact Lay.nil_rd _ _) (by decide) HZ.out (by decide)).mono ?_; rintro e' w59 ⟨_, m59, rfl, ⟨T59, P59, E59, q59, c59, qv59, cv59, qh59, ch59, HT59, HP59, HE59, rfl, R59, V59, H59⟩, hk⟩; replace hS := hS.call hk; (try replace A0 := Lib.hid (Lay.mono _ hk.le A0.out)); (try replace A1 := Lib.hid (Lay.mono _ hk.le A1.out)); (try replace A2 := Lib.hid (Lay.mono _ hk.le A2.out)); (try replace R50 := Lib.hid (Lay.mono _ hk.le R50.out)); (try replace R59 := Lib.hid (Lay.mono _ hk.le R59.out)); (try replace R95 := Lib.hid (Lay.mono _ hk.le R95.out)); (try replace R116 := Lib.hid (Lay.mono _ hk.le R116.out)); (try replace R125 := Lib.hid (Lay.mono _ hk.le R125.out)); (try replace R133 := Lib.hid (Lay.mono _ hk.le R133.out)); clear hk; obtain rfl : E59 = 0 := HE59.out.trans K3.out; have e59 : P59.e = 7 := (by rw [HP59.out]; exact K4.out); have Mk59 := True.intro)
    | (go_at_call 6; refine (live19_c _ _ hS.inw (ShAt.mono hS.le HG.out)).mono ?_; rintro e' w28 ⟨_, m28, rfl, rfl, hk⟩; replace hS := hS.grow (grownBy_of_below hk.below); clear hk)
    | (go_at_call 12; refine (mfew_c _ _ hS.inw _ _ M A0.out).mono ?_; rintro e' w32 ⟨_, m32, rfl, ⟨B, rfl⟩, hk⟩; replace hS := hS.grow (grownBy_of_below hk.below); clear hk; cases B))
  all_goals (first | (go_ret; exact ⟨rfl, hS.below⟩) | (go_ret; refine ⟨?_, hS.below⟩; simp; done))
end Go.Proofs.YtlkdjmpkapeppaaDoor
