/- Slots: how they lie; slots.is, within, fits. -/
import Derived.Test.YtnbhhdncbajkgaaGreatDoorG1
import Derived.Test.YtnbhhdncbajkgaaGreatDoorG3
import Derived.Test.YtnbhhdncbajkgaaGreatDoorIfG
namespace Go.Proofs.YtnbhhdncbajkgaaGreatDoor
set_option linter.unusedVariables false
set_option linter.unusedSimpArgs false
open Go.RowKit Go.Shelf
structure Sl where
  dim : Int
  ids : List Int
  vecs : List (List Int)
def slL : Lay Sl := ((i64L.prod i64L.list).prod vecL.list).by 56 fun s => ((s.dim, s.ids), s.vecs)
theorem slL_open {m : Mem} {cs : List Value} {s : Sl} (h : slL.rd m cs s) : ∃ q1 c1 q2 c2, cs = [.int .i64 s.dim, .slice q1 s.ids.length c1, .slice q2 s.vecs.length c2] ∧ InK .i64 s.dim ∧ i64L.list.rd m [.slice q1 s.ids.length c1] s.ids ∧ vecL.list.rd m [.slice q2 s.vecs.length c2] s.vecs := by
  obtain ⟨c1, c2, rfl, ⟨c3, c4, rfl, ⟨rfl, hk⟩, h4⟩, h2⟩ := h
  have e1 := i64L.list.len h4
  have e2 := vecL.list.len h2
  match c4, e1, c2, e2 with
  | [v0], _, [v1], _ =>
    obtain ⟨q1, k1, rfl, _⟩ := Lay.list_open h4
    obtain ⟨q2, k2, rfl, _⟩ := Lay.list_open h2
    exact ⟨q1, k1, q2, k2, rfl, hk, h4, h2⟩
theorem slL_mk {m : Mem} {s : Sl} {v1 v2 : Value} (hk : InK .i64 s.dim) (h1 : i64L.list.rd m [v1] s.ids) (h2 : vecL.list.rd m [v2] s.vecs) : slL.rd m [.int .i64 s.dim, v1, v2] s :=
  ⟨[.int .i64 s.dim, v1], [v2], rfl, ⟨[.int .i64 s.dim], [v1], rfl, ⟨rfl, hk⟩, h1⟩, h2⟩
theorem Row.listAt {α : Type} {L : Lay α} {m : Mem} {p : Option Addr} {vs : List (List α)} (h : Row L.list m p vs) (i : Nat) (hi : i < vs.length) : ∃ b o q c, p = some ⟨b, o, none⟩ ∧ m ⟨b, o + i, none⟩ = some (.slice q (vs.getD i []).length c) ∧ L.list.rd m [.slice q (vs.getD i []).length c] (vs.getD i []) := by
  obtain ⟨b, o, cs, hp, hcs, hc⟩ := h.get i hi
  have e : vs.getD i [] = vs[i] := by simp [List.getD, hi]
  have e1 := L.list.len hcs
  match cs, e1 with
  | [v], _ =>
    obtain ⟨q, c, rfl, _⟩ := Lay.list_open hcs
    rw [e]
    refine ⟨b, o, q, c, hp, ?_, hcs⟩
    have := hc 0 _ rfl
    simpa [Lay.list] using this
set_option maxRecDepth 100000 in
set_option maxHeartbeats 4000000 in
theorem is_c (m : Mem) (w : World) (hm : m.In w) (x : Int) :
    Calls Tryz.prog 75 #[.int .i64 x] w (Ret w m fun v _ => v = .bool (decide (0 ≤ x ∧ x ≤ 2147483647))) := by
  have hS := St.start hm
  by_cases h0 : 0 ≤ x
  · go_enter Tryz.func75, Tryz.ntmps75
    go_wp2_with fail
    go_ret
    exact ⟨_, m, rfl, by simp [h0], hS⟩
  · go_enter Tryz.func75, Tryz.ntmps75
    go_wp2_with fail
    go_ret
    exact ⟨_, m, rfl, by simp [h0]; intro _; omega, hS⟩
set_option maxRecDepth 100000 in
set_option maxHeartbeats 4000000 in
theorem within_c (m : Mem) (w : World) (hm : m.In w) (x y : Int) :
    Calls Tryz.prog 79 #[.int .i64 x, .int .i64 y] w (Ret w m fun v _ => v = .bool (decide (1 ≤ x ∧ x ≤ y))) := by
  have hS := St.start hm
  by_cases h0 : 1 ≤ x
  · go_enter Tryz.func79, Tryz.ntmps79
    go_wp2_with fail
    go_ret
    exact ⟨_, m, rfl, by simp [h0], hS⟩
  · go_enter Tryz.func79, Tryz.ntmps79
    go_wp2_with fail
    go_ret
    exact ⟨_, m, rfl, by simp [h0]; intro _; omega, hS⟩
set_option maxRecDepth 100000 in
set_option maxHeartbeats 4000000 in
theorem fits_c (m : Mem) (w : World) (hm : m.In w) (d : Int) (v1 v2 v : Value) (xs : List Int) (hr : vecL.rd m [v] xs) :
    Calls Tryz.prog 53 #[.agg #[.int .i64 d, v1, v2], v] w (Ret w m fun v _ => v = .bool (decide (fitsV d xs))) := by
  have hS := St.start hm
  have A0 := Lib.hid hr
  obtain ⟨q, c, rfl, _⟩ := Lay.list_open hr
  clear hr
  by_cases h0 : fineV xs
  · have c1 : Hid (chkV xs = 0) := if_pos h0
    by_cases h1 : (xs.length : Int) = d
    · have hR : Hid (decide (fitsV d xs) = true) := decide_eq_true ⟨h0, h1⟩
      subst h1
      go_enter Tryz.func53, Tryz.ntmps53
      go_wp2_with (first
    | ((with_reducible refine' Wl.out ?_; apply k_box hS); (· exact .mk); clear hS; intro _ _ hS)
    | ((with_reducible refine' Wl.out ?_; apply k_load hS); (· exact .mk))
    | go_skip
    | ((with_reducible refine' Wl.out ?_; apply kg_load hS); iterate 2 (· exact .mk))
    | ((with_reducible refine' Wl.out ?_; refine' wg_case ?_ ?_) <;> (intro hgW; (try (have hg2 := hgW; simp [go_sem] at hg2)); (first | (exfalso; assumption) | ((with_reducible refine' Wl.out ?_; apply k_no hgW)) | ((with_reducible refine' Wl.out ?_; apply kg_load hS ⟨hgW⟩); (· exact .mk))); clear hgW))
    | (go_at_call 45; (fail_if_success (clear Mk6)); refine (letInt (vcheck_c _ _ hS.inw _ _ (by first | exact A0.out | exact dkL_dry A0.out | exact Lay.nil_rd _ _))).mono ?_; rintro e' w6 ⟨_, m6, rfl, ⟨E6, HE6, rfl⟩, hk⟩; replace hS := hS.call hk; (try replace A0 := Lib.hid (Lay.mono _ hk.le A0.out)); clear hk; obtain rfl : E6 = 0 := HE6.out.trans c1.out; have Mk6 := True.intro))
      go_ret
      exact ⟨_, _, rfl, by rw [hR.out]; rfl, hS.done⟩
    · have hR : Hid (decide (fitsV d xs) = false) := decide_eq_false fun h => h1 h.2
      have h1' : ((xs.length : Int) == d) = false := by simp [h1]
      clear h0
      go_enter Tryz.func53, Tryz.ntmps53
      go_wp2_with (first
    | ((with_reducible refine' Wl.out ?_; apply k_box hS); (· exact .mk); clear hS; intro _ _ hS)
    | ((with_reducible refine' Wl.out ?_; apply k_load hS); (· exact .mk))
    | go_skip
    | ((with_reducible refine' Wl.out ?_; apply kg_load hS); iterate 2 (· exact .mk))
    | ((with_reducible refine' Wl.out ?_; refine' wg_case ?_ ?_) <;> (intro hgW; (try (have hg2 := hgW; simp [go_sem] at hg2)); (first | (exfalso; assumption) | ((with_reducible refine' Wl.out ?_; apply k_no hgW)) | ((with_reducible refine' Wl.out ?_; apply kg_load hS ⟨hgW⟩); (· exact .mk))); clear hgW))
    | (go_at_call 45; (fail_if_success (clear Mk6)); refine (letInt (vcheck_c _ _ hS.inw _ _ (by first | exact A0.out | exact dkL_dry A0.out | exact Lay.nil_rd _ _))).mono ?_; rintro e' w6 ⟨_, m6, rfl, ⟨E6, HE6, rfl⟩, hk⟩; replace hS := hS.call hk; (try replace A0 := Lib.hid (Lay.mono _ hk.le A0.out)); clear hk; obtain rfl : E6 = 0 := HE6.out.trans c1.out; have Mk6 := True.intro))
      go_ret
      exact ⟨_, _, rfl, by rw [hR.out]; rfl, hS.done⟩
  · have c1 : Hid (chkV xs = 1) := if_neg h0
    have hR : Hid (decide (fitsV d xs) = false) := decide_eq_false fun h => h0 h.1
    clear h0
    go_enter Tryz.func53, Tryz.ntmps53
    go_wp2_with (first
    | ((with_reducible refine' Wl.out ?_; apply k_box hS); (· exact .mk); clear hS; intro _ _ hS)
    | ((with_reducible refine' Wl.out ?_; apply k_load hS); (· exact .mk))
    | go_skip
    | ((with_reducible refine' Wl.out ?_; apply kg_load hS); iterate 2 (· exact .mk))
    | ((with_reducible refine' Wl.out ?_; refine' wg_case ?_ ?_) <;> (intro hgW; (try (have hg2 := hgW; simp [go_sem] at hg2)); (first | (exfalso; assumption) | ((with_reducible refine' Wl.out ?_; apply k_no hgW)) | ((with_reducible refine' Wl.out ?_; apply kg_load hS ⟨hgW⟩); (· exact .mk))); clear hgW))
    | (go_at_call 45; (fail_if_success (clear Mk6)); refine (letInt (vcheck_c _ _ hS.inw _ _ (by first | exact A0.out | exact dkL_dry A0.out | exact Lay.nil_rd _ _))).mono ?_; rintro e' w6 ⟨_, m6, rfl, ⟨E6, HE6, rfl⟩, hk⟩; replace hS := hS.call hk; (try replace A0 := Lib.hid (Lay.mono _ hk.le A0.out)); clear hk; obtain rfl : E6 = 1 := HE6.out.trans c1.out; have Mk6 := True.intro))
    go_ret
    exact ⟨_, _, rfl, by rw [hR.out]; rfl, hS.done⟩
end Go.Proofs.YtnbhhdncbajkgaaGreatDoor
