/- The walk of ModelApart, the ways that answer early. -/
import Derived.Test.YtdeeclnjkjapcaaDoorMd20G
namespace Go.Proofs.YtdeeclnjkjapcaaDoor
set_option linter.unusedVariables false
set_option linter.unusedSimpArgs false
open Go.RowKit Go.Shelf
set_option maxRecDepth 100000 in
set_option maxHeartbeats 8000000 in
theorem walkMA1 (w : World) (hG : ShAt (World.mem w)) (vm : Value) (M : Md) (hM : ∃ q c, vm = .agg #[.int .i64 M.cap, .int .i64 M.dim, .slice q M.l.length c] ∧ itL.list.rd (World.mem w) [.slice q M.l.length c] M.l) (va : Value) (a : Ak) (ha : ∃ q c, va = .agg #[.int .i64 a.kind, .int .i64 a.id, .int .i64 a.k, .int .i64 a.seed, .slice q a.v.length c] ∧ InK .i64 a.id ∧ InK .i64 a.seed ∧ vecL.rd (World.mem w) [.slice q a.v.length c] a.v) (vb : Value) (b : Ak) (hb : ∃ q c, vb = .agg #[.int .i64 b.kind, .int .i64 b.id, .int .i64 b.k, .int .i64 b.seed, .slice q b.v.length c] ∧ InK .i64 b.id ∧ InK .i64 b.seed ∧ vecL.rd (World.mem w) [.slice q b.v.length c] b.v) (h1 : (300 : Int) < a.v.length) :
    Calls Tryd.prog 4 #[vm, va, vb] w fun e w' => e = .returned (.bool true) ∧ Below w.heap.size w w' := by
  obtain ⟨qm, cm, rfl, hM⟩ := hM
  obtain ⟨pv, cv, rfl, i1, i2, ha⟩ := ha
  obtain ⟨pu, cu, rfl, j1, j2, hb⟩ := hb
  have hS := St.start (World.mem_in w)
  have HG := Lib.hid hG
  have HI := Lib.hid i1
  have HI2 := Lib.hid i2
  have HJ := Lib.hid j1
  have HJ2 := Lib.hid j2
  have A0 := Lib.hid hM
  have A1 := Lib.hid ha
  have A2 := Lib.hid hb
  clear hG hM ha hb i1 i2 j1 j2
  go_enter Tryd.func4, Tryd.ntmps4
  go_wp2_with (first
    | ((with_reducible refine' Wl.out ?_; apply k_box hS); (· exact .mk); clear hS; intro _ _ hS)
    | ((with_reducible refine' Wl.out ?_; apply k_alloc hS); (· exact .mk); clear hS; intro _ _ hS)
    | ((with_reducible refine' Wl.out ?_; apply k_load hS); (· exact .mk))
    | ((with_reducible refine' Wl.out ?_; apply k_loads hS); (· exact .mk))
    | go_skip
    | ((with_reducible refine' Wl.out ?_; apply kg_load hS); iterate 2 (· exact .mk))
    | ((with_reducible refine' Wl.out ?_; apply kg_loads hS); iterate 2 (· exact .mk))
    | ((with_reducible refine' Wl.out ?_; refine' wg_case ?_ ?_) <;> (intro hgW; (try (have hg2 := hgW; simp [go_sem] at hg2)); (first | (exfalso; assumption) | ((with_reducible refine' Wl.out ?_; apply k_no hgW)) | ((with_reducible refine' Wl.out ?_; apply kg_load hS ⟨hgW⟩); (· exact .mk)) | ((with_reducible refine' Wl.out ?_; apply kg_loads hS ⟨hgW⟩); (· exact .mk))); clear hgW))
    | ((with_reducible refine' Wl.out ?_; apply k_stores hS); (· exact .mk); clear hS; intro ws hS)
    | (go_at_call 5; refine (live19_c _ _ hS.inw (ShAt.mono hS.le HG.out)).mono ?_; rintro e' w26 ⟨_, m26, rfl, rfl, hk⟩; replace hS := hS.grow (grownBy_of_below hk.below); clear hk)
    | (go_at_call 11; refine (mfew_c _ _ hS.inw _ _ M A0.out).mono ?_; rintro e' w30 ⟨_, m30, rfl, ⟨B, rfl⟩, hk⟩; replace hS := hS.grow (grownBy_of_below hk.below); clear hk; cases B))
  all_goals (first | (go_ret; exact ⟨rfl, hS.below⟩) | (go_ret; refine ⟨?_, hS.below⟩; simp; done))
set_option maxRecDepth 100000 in
set_option maxHeartbeats 8000000 in
theorem walkMA2 (w : World) (hG : ShAt (World.mem w)) (vm : Value) (M : Md) (hM : ∃ q c, vm = .agg #[.int .i64 M.cap, .int .i64 M.dim, .slice q M.l.length c] ∧ itL.list.rd (World.mem w) [.slice q M.l.length c] M.l) (va : Value) (a : Ak) (ha : ∃ q c, va = .agg #[.int .i64 a.kind, .int .i64 a.id, .int .i64 a.k, .int .i64 a.seed, .slice q a.v.length c] ∧ InK .i64 a.id ∧ InK .i64 a.seed ∧ vecL.rd (World.mem w) [.slice q a.v.length c] a.v) (vb : Value) (b : Ak) (hb : ∃ q c, vb = .agg #[.int .i64 b.kind, .int .i64 b.id, .int .i64 b.k, .int .i64 b.seed, .slice q b.v.length c] ∧ InK .i64 b.id ∧ InK .i64 b.seed ∧ vecL.rd (World.mem w) [.slice q b.v.length c] b.v) (h1 : ¬ (300 : Int) < a.v.length) (h2 : (300 : Int) < b.v.length) :
    Calls Tryd.prog 4 #[vm, va, vb] w fun e w' => e = .returned (.bool true) ∧ Below w.heap.size w w' := by
  obtain ⟨qm, cm, rfl, hM⟩ := hM
  obtain ⟨pv, cv, rfl, i1, i2, ha⟩ := ha
  obtain ⟨pu, cu, rfl, j1, j2, hb⟩ := hb
  have hS := St.start (World.mem_in w)
  have HG := Lib.hid hG
  have HI := Lib.hid i1
  have HI2 := Lib.hid i2
  have HJ := Lib.hid j1
  have HJ2 := Lib.hid j2
  have A0 := Lib.hid hM
  have A1 := Lib.hid ha
  have A2 := Lib.hid hb
  clear hG hM ha hb i1 i2 j1 j2
  go_enter Tryd.func4, Tryd.ntmps4
  go_wp2_with (first
    | ((with_reducible refine' Wl.out ?_; apply k_box hS); (· exact .mk); clear hS; intro _ _ hS)
    | ((with_reducible refine' Wl.out ?_; apply k_alloc hS); (· exact .mk); clear hS; intro _ _ hS)
    | ((with_reducible refine' Wl.out ?_; apply k_load hS); (· exact .mk))
    | ((with_reducible refine' Wl.out ?_; apply k_loads hS); (· exact .mk))
    | go_skip
    | ((with_reducible refine' Wl.out ?_; apply kg_load hS); iterate 2 (· exact .mk))
    | ((with_reducible refine' Wl.out ?_; apply kg_loads hS); iterate 2 (· exact .mk))
    | ((with_reducible refine' Wl.out ?_; refine' wg_case ?_ ?_) <;> (intro hgW; (try (have hg2 := hgW; simp [go_sem] at hg2)); (first | (exfalso; assumption) | ((with_reducible refine' Wl.out ?_; apply k_no hgW)) | ((with_reducible refine' Wl.out ?_; apply kg_load hS ⟨hgW⟩); (· exact .mk)) | ((with_reducible refine' Wl.out ?_; apply kg_loads hS ⟨hgW⟩); (· exact .mk))); clear hgW))
    | ((with_reducible refine' Wl.out ?_; apply k_stores hS); (· exact .mk); clear hS; intro ws hS)
    | (go_at_call 5; refine (live19_c _ _ hS.inw (ShAt.mono hS.le HG.out)).mono ?_; rintro e' w26 ⟨_, m26, rfl, rfl, hk⟩; replace hS := hS.grow (grownBy_of_below hk.below); clear hk)
    | (go_at_call 11; refine (mfew_c _ _ hS.inw _ _ M A0.out).mono ?_; rintro e' w30 ⟨_, m30, rfl, ⟨B, rfl⟩, hk⟩; replace hS := hS.grow (grownBy_of_below hk.below); clear hk; cases B))
  all_goals (first | (go_ret; exact ⟨rfl, hS.below⟩) | (go_ret; refine ⟨?_, hS.below⟩; simp; done))
set_option maxRecDepth 100000 in
set_option maxHeartbeats 8000000 in
theorem walkMA3 (w : World) (hG : ShAt (World.mem w)) (vm : Value) (M : Md) (hM : ∃ q c, vm = .agg #[.int .i64 M.cap, .int .i64 M.dim, .slice q M.l.length c] ∧ itL.list.rd (World.mem w) [.slice q M.l.length c] M.l) (va : Value) (a : Ak) (ha : ∃ q c, va = .agg #[.int .i64 a.kind, .int .i64 a.id, .int .i64 a.k, .int .i64 a.seed, .slice q a.v.length c] ∧ InK .i64 a.id ∧ InK .i64 a.seed ∧ vecL.rd (World.mem w) [.slice q a.v.length c] a.v) (vb : Value) (b : Ak) (hb : ∃ q c, vb = .agg #[.int .i64 b.kind, .int .i64 b.id, .int .i64 b.k, .int .i64 b.seed, .slice q b.v.length c] ∧ InK .i64 b.id ∧ InK .i64 b.seed ∧ vecL.rd (World.mem w) [.slice q b.v.length c] b.v) (h1 : ¬ (300 : Int) < a.v.length) (h2 : ¬ (300 : Int) < b.v.length) (h3 : (a.id == b.id) = true) :
    Calls Tryd.prog 4 #[vm, va, vb] w fun e w' => e = .returned (.bool true) ∧ Below w.heap.size w w' := by
  obtain ⟨qm, cm, rfl, hM⟩ := hM
  obtain ⟨pv, cv, rfl, i1, i2, ha⟩ := ha
  obtain ⟨pu, cu, rfl, j1, j2, hb⟩ := hb
  have hS := St.start (World.mem_in w)
  have HG := Lib.hid hG
  have HI := Lib.hid i1
  have HI2 := Lib.hid i2
  have HJ := Lib.hid j1
  have HJ2 := Lib.hid j2
  have A0 := Lib.hid hM
  have A1 := Lib.hid ha
  have A2 := Lib.hid hb
  clear hG hM ha hb i1 i2 j1 j2
  go_enter Tryd.func4, Tryd.ntmps4
  go_wp2_with (first
    | ((with_reducible refine' Wl.out ?_; apply k_box hS); (· exact .mk); clear hS; intro _ _ hS)
    | ((with_reducible refine' Wl.out ?_; apply k_alloc hS); (· exact .mk); clear hS; intro _ _ hS)
    | ((with_reducible refine' Wl.out ?_; apply k_load hS); (· exact .mk))
    | ((with_reducible refine' Wl.out ?_; apply k_loads hS); (· exact .mk))
    | go_skip
    | ((with_reducible refine' Wl.out ?_; apply kg_load hS); iterate 2 (· exact .mk))
    | ((with_reducible refine' Wl.out ?_; apply kg_loads hS); iterate 2 (· exact .mk))
    | ((with_reducible refine' Wl.out ?_; refine' wg_case ?_ ?_) <;> (intro hgW; (try (have hg2 := hgW; simp [go_sem] at hg2)); (first | (exfalso; assumption) | ((with_reducible refine' Wl.out ?_; apply k_no hgW)) | ((with_reducible refine' Wl.out ?_; apply kg_load hS ⟨hgW⟩); (· exact .mk)) | ((with_reducible refine' Wl.out ?_; apply kg_loads hS ⟨hgW⟩); (· exact .mk))); clear hgW))
    | ((with_reducible refine' Wl.out ?_; apply k_stores hS); (· exact .mk); clear hS; intro ws hS)
    | (go_at_call 5; refine (live19_c _ _ hS.inw (ShAt.mono hS.le HG.out)).mono ?_; rintro e' w26 ⟨_, m26, rfl, rfl, hk⟩; replace hS := hS.grow (grownBy_of_below hk.below); clear hk)
    | (go_at_call 11; refine (mfew_c _ _ hS.inw _ _ M A0.out).mono ?_; rintro e' w30 ⟨_, m30, rfl, ⟨B, rfl⟩, hk⟩; replace hS := hS.grow (grownBy_of_below hk.below); clear hk; cases B))
  all_goals (first | (go_ret; exact ⟨rfl, hS.below⟩) | (go_ret; refine ⟨?_, hS.below⟩; simp; done))
set_option maxRecDepth 100000 in
set_option maxHeartbeats 8000000 in
theorem walkMA4 (w : World) (hG : ShAt (World.mem w)) (vm : Value) (M : Md) (hM : ∃ q c, vm = .agg #[.int .i64 M.cap, .int .i64 M.dim, .slice q M.l.length c] ∧ itL.list.rd (World.mem w) [.slice q M.l.length c] M.l) (va : Value) (a : Ak) (ha : ∃ q c, va = .agg #[.int .i64 a.kind, .int .i64 a.id, .int .i64 a.k, .int .i64 a.seed, .slice q a.v.length c] ∧ InK .i64 a.id ∧ InK .i64 a.seed ∧ vecL.rd (World.mem w) [.slice q a.v.length c] a.v) (vb : Value) (b : Ak) (hb : ∃ q c, vb = .agg #[.int .i64 b.kind, .int .i64 b.id, .int .i64 b.k, .int .i64 b.seed, .slice q b.v.length c] ∧ InK .i64 b.id ∧ InK .i64 b.seed ∧ vecL.rd (World.mem w) [.slice q b.v.length c] b.v) (h1 : ¬ (300 : Int) < a.v.length) (h2 : ¬ (300 : Int) < b.v.length) (h3 : (a.id == b.id) = false) (h4 : (3 : Int) < a.kind) :
    Calls Tryd.prog 4 #[vm, va, vb] w fun e w' => e = .returned (.bool true) ∧ Below w.heap.size w w' := by
  obtain ⟨qm, cm, rfl, hM⟩ := hM
  obtain ⟨pv, cv, rfl, i1, i2, ha⟩ := ha
  obtain ⟨pu, cu, rfl, j1, j2, hb⟩ := hb
  have hS := St.start (World.mem_in w)
  have HG := Lib.hid hG
  have HI := Lib.hid i1
  have HI2 := Lib.hid i2
  have HJ := Lib.hid j1
  have HJ2 := Lib.hid j2
  have A0 := Lib.hid hM
  have A1 := Lib.hid ha
  have A2 := Lib.hid hb
  clear hG hM ha hb i1 i2 j1 j2
  go_enter Tryd.func4, Tryd.ntmps4
  go_wp2_with (first
    | ((with_reducible refine' Wl.out ?_; apply k_box hS); (· exact .mk); clear hS; intro _ _ hS)
    | ((with_reducible refine' Wl.out ?_; apply k_alloc hS); (· exact .mk); clear hS; intro _ _ hS)
    | ((with_reducible refine' Wl.out ?_; apply k_load hS); (· exact .mk))
    | ((with_reducible refine' Wl.out ?_; apply k_loads hS); (· exact .mk))
    | go_skip
    | ((with_reducible refine' Wl.out ?_; apply kg_load hS); iterate 2 (· exact .mk))
    | ((with_reducible refine' Wl.out ?_; apply kg_loads hS); iterate 2 (· exact .mk))
    | ((with_reducible refine' Wl.out ?_; refine' wg_case ?_ ?_) <;> (intro hgW; (try (have hg2 := hgW; simp [go_sem] at hg2)); (first | (exfalso; assumption) | ((with_reducible refine' Wl.out ?_; apply k_no hgW)) | ((with_reducible refine' Wl.out ?_; apply kg_load hS ⟨hgW⟩); (· exact .mk)) | ((with_reducible refine' Wl.out ?_; apply kg_loads hS ⟨hgW⟩); (· exact .mk))); clear hgW))
    | ((with_reducible refine' Wl.out ?_; apply k_stores hS); (· exact .mk); clear hS; intro ws hS)
    | (go_at_call 5; refine (live19_c _ _ hS.inw (ShAt.mono hS.le HG.out)).mono ?_; rintro e' w26 ⟨_, m26, rfl, rfl, hk⟩; replace hS := hS.grow (grownBy_of_below hk.below); clear hk)
    | (go_at_call 11; refine (mfew_c _ _ hS.inw _ _ M A0.out).mono ?_; rintro e' w30 ⟨_, m30, rfl, ⟨B, rfl⟩, hk⟩; replace hS := hS.grow (grownBy_of_below hk.below); clear hk; cases B))
  all_goals (first | (go_ret; exact ⟨rfl, hS.below⟩) | (go_ret; refine ⟨?_, hS.below⟩; simp; done))
set_option maxRecDepth 100000 in
set_option maxHeartbeats 8000000 in
theorem walkMA5 (w : World) (hG : ShAt (World.mem w)) (vm : Value) (M : Md) (hM : ∃ q c, vm = .agg #[.int .i64 M.cap, .int .i64 M.dim, .slice q M.l.length c] ∧ itL.list.rd (World.mem w) [.slice q M.l.length c] M.l) (va : Value) (a : Ak) (ha : ∃ q c, va = .agg #[.int .i64 a.kind, .int .i64 a.id, .int .i64 a.k, .int .i64 a.seed, .slice q a.v.length c] ∧ InK .i64 a.id ∧ InK .i64 a.seed ∧ vecL.rd (World.mem w) [.slice q a.v.length c] a.v) (vb : Value) (b : Ak) (hb : ∃ q c, vb = .agg #[.int .i64 b.kind, .int .i64 b.id, .int .i64 b.k, .int .i64 b.seed, .slice q b.v.length c] ∧ InK .i64 b.id ∧ InK .i64 b.seed ∧ vecL.rd (World.mem w) [.slice q b.v.length c] b.v) (h1 : ¬ (300 : Int) < a.v.length) (h2 : ¬ (300 : Int) < b.v.length) (h3 : (a.id == b.id) = false) (h4 : ¬ (3 : Int) < a.kind) (h5 : (3 : Int) < b.kind) :
    Calls Tryd.prog 4 #[vm, va, vb] w fun e w' => e = .returned (.bool true) ∧ Below w.heap.size w w' := by
  obtain ⟨qm, cm, rfl, hM⟩ := hM
  obtain ⟨pv, cv, rfl, i1, i2, ha⟩ := ha
  obtain ⟨pu, cu, rfl, j1, j2, hb⟩ := hb
  have hS := St.start (World.mem_in w)
  have HG := Lib.hid hG
  have HI := Lib.hid i1
  have HI2 := Lib.hid i2
  have HJ := Lib.hid j1
  have HJ2 := Lib.hid j2
  have A0 := Lib.hid hM
  have A1 := Lib.hid ha
  have A2 := Lib.hid hb
  clear hG hM ha hb i1 i2 j1 j2
  go_enter Tryd.func4, Tryd.ntmps4
  go_wp2_with (first
    | ((with_reducible refine' Wl.out ?_; apply k_box hS); (· exact .mk); clear hS; intro _ _ hS)
    | ((with_reducible refine' Wl.out ?_; apply k_alloc hS); (· exact .mk); clear hS; intro _ _ hS)
    | ((with_reducible refine' Wl.out ?_; apply k_load hS); (· exact .mk))
    | ((with_reducible refine' Wl.out ?_; apply k_loads hS); (· exact .mk))
    | go_skip
    | ((with_reducible refine' Wl.out ?_; apply kg_load hS); iterate 2 (· exact .mk))
    | ((with_reducible refine' Wl.out ?_; apply kg_loads hS); iterate 2 (· exact .mk))
    | ((with_reducible refine' Wl.out ?_; refine' wg_case ?_ ?_) <;> (intro hgW; (try (have hg2 := hgW; simp [go_sem] at hg2)); (first | (exfalso; assumption) | ((with_reducible refine' Wl.out ?_; apply k_no hgW)) | ((with_reducible refine' Wl.out ?_; apply kg_load hS ⟨hgW⟩); (· exact .mk)) | ((with_reducible refine' Wl.out ?_; apply kg_loads hS ⟨hgW⟩); (· exact .mk))); clear hgW))
    | ((with_reducible refine' Wl.out ?_; apply k_stores hS); (· exact .mk); clear hS; intro ws hS)
    | (go_at_call 5; refine (live19_c _ _ hS.inw (ShAt.mono hS.le HG.out)).mono ?_; rintro e' w26 ⟨_, m26, rfl, rfl, hk⟩; replace hS := hS.grow (grownBy_of_below hk.below); clear hk)
    | (go_at_call 11; refine (mfew_c _ _ hS.inw _ _ M A0.out).mono ?_; rintro e' w30 ⟨_, m30, rfl, ⟨B, rfl⟩, hk⟩; replace hS := hS.grow (grownBy_of_below hk.below); clear hk; cases B))
  all_goals (first | (go_ret; exact ⟨rfl, hS.below⟩) | (go_ret; refine ⟨?_, hS.below⟩; simp; done))
end Go.Proofs.YtdeeclnjkjapcaaDoor
