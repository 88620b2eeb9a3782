/- model.Do: who asks for the nearest ones, for how many there are, and for what a model does not. -/
import Derived.Test.YtnbhhdncbajkgaaGreatDoorG4
namespace Go.Proofs.YtnbhhdncbajkgaaGreatDoor
set_option linter.unusedVariables false
set_option linter.unusedSimpArgs false
open Go.RowKit Go.Shelf
set_option maxRecDepth 100000 in
set_option maxHeartbeats 8000000 in
theorem do_query (m : Mem) (w : World) (hm : m.In w) (hG : ShAt m) (q : Option Addr) (c : Nat) (M : Md) (h : itL.list.rd m [.slice q M.l.length c] M.l) (kind id kk seed : Int) (v : List Int) (qv : Option Addr) (cv : Nat) (hv : vecL.rd m [.slice qv v.length cv] v) (hsd : seed ≤ 9223372036854775807)
    (hok : okM M) (hoa : okA ⟨kind, id, kk, seed, v⟩ M.dim M.cap) (hkind : kind = 5) :
    Calls Tryz.prog 9 #[.agg #[.int .i64 M.cap, .int .i64 M.dim, .slice q M.l.length c], .agg #[.int .i64 kind, .int .i64 id, .int .i64 kk, .int .i64 seed, .slice qv v.length cv]] w (Ret w m (DoQ M ⟨kind, id, kk, seed, v⟩)) := by
  have hS := St.start hm
  have A0 := Lib.hid h
  have A1 := Lib.hid hv
  have HG := Lib.hid hG
  have hn : M.l.length ≤ 256 := by have := hok.2.2.1; have := hok.1; omega
  have hl : M.l.length ≤ 1000 := by omega
  have hb1 : Hid (M.l.length * itL.bytes ≤ 140737488355328) := by show _ * 32 ≤ _; omega
  have HN := Lib.hid hn
  have HSo := Lib.hid hok.2.2.2.1
  have HOk := Lib.hid hok
  have HCk : Hid (chkM M = 0) := if_pos hok
  have HCa : Hid (chkA ⟨kind, id, kk, seed, v⟩ M.dim M.cap = 0) := if_pos hoa
  obtain ⟨d1, d2, d3⟩ := doM_ok hok hoa
  have HF := Lib.hid (okA_v hoa (.inr (.inr hkind)))
  have HKK : Hid (1 ≤ kk ∧ kk ≤ 256) := by
    show _ ∧ _
    have h4 := hoa.2.2.2.1
    rw [if_pos hkind] at h4
    simp only at h4
    have := hok.1
    omega
  have e1 : doR M ⟨kind, id, kk, seed, v⟩ = { rp0 with hits := near kk.toNat (M.l.map (hitM v)) } := by
    unfold doR
    rw [if_neg (by rintro ⟨h, _⟩; simp only at h; omega), if_neg (by rintro ⟨h, _⟩; simp only at h; omega), if_neg (by rintro ⟨h, _⟩; simp only at h; omega), if_neg (by simp only; omega), if_pos (by simp only; exact hkind)]
    rfl
  have e2 : doL M ⟨kind, id, kk, seed, v⟩ = M.l := doL_read (by simp only; omega)
  rw [e2] at d1
  rw [e1] at d2
  have HD := Lib.hid (And.intro d1 (And.intro d2 d3))
  clear h hv hG hn hok hoa d1 d2 d3 e1 e2
  subst hkind
  all_goals
    go_enter Tryz.func9, Tryz.ntmps9
    go_wp2_with (first
    | ((with_reducible refine' Wl.out ?_; apply k_box (ty := 24) (y := (.tmp 0)) hS); (· exact .mk); clear hS; intro w2 b2 hS)
    | ((with_reducible refine' Wl.out ?_; apply k_box hS); (· exact .mk); clear hS; intro _ _ hS)
    | ((with_reducible refine' Wl.out ?_; apply k_alloc hS); (· exact .mk); clear hS; intro _ _ hS)
    | ((with_reducible refine' Wl.out ?_; apply k_load hS); (· exact .mk))
    | ((with_reducible refine' Wl.out ?_; apply k_loads hS); (· exact .mk))
    | go_skip
    | ((with_reducible refine' Wl.out ?_; apply kg_load hS); iterate 2 (· exact .mk))
    | ((with_reducible refine' Wl.out ?_; apply kg_loads hS); iterate 2 (· exact .mk))
    | ((with_reducible refine' Wl.out ?_; refine' wg_case ?_ ?_) <;> (intro hgW; (try (have hg2 := hgW; simp [go_sem] at hg2)); (first | (exfalso; assumption) | ((with_reducible refine' Wl.out ?_; apply k_no hgW)) | ((with_reducible refine' Wl.out ?_; apply kg_load hS ⟨hgW⟩); (· exact .mk)) | ((with_reducible refine' Wl.out ?_; apply kg_loads hS ⟨hgW⟩); (· exact .mk))); clear hgW))
    | ((with_reducible refine' Wl.out ?_; apply k_store hS); (· exact .mk); clear hS; intro ws hS)
    | ((with_reducible refine' Wl.out ?_; apply k_storeR hS); (· exact .mk); clear hS; intro ws hS)
    | ((with_reducible refine' Wl.out ?_; apply k_stores hS); (· exact .mk); clear hS; intro ws hS)
      | (go_at_call 17; refine (mcheck_c m _ hS.inw _ _ M A0.out).mono ?_; rintro e' wq ⟨_, mq, rfl, rfl, hk⟩; replace hS := hS.grow (grownBy_of_below hk.below); clear hk; rw [HCk.out])
      | (go_at_call 27; refine (acheck_c m _ hS.inw HG.out _ _ _ _ _ _ _ A1.out hsd _ _).mono ?_; rintro e' wq ⟨_, mq, rfl, rfl, hk⟩; replace hS := hS.grow (grownBy_of_below hk.below); clear hk; rw [HCa.out])
      | (go_at_call 28; refine (mown_c m _ hS.inw _ _ M A0.out).mono ?_; rintro e' w24 ⟨q24, c24, cells24, m24, rfl, hc24, hk24⟩; have HLE := Lib.hid hk24.le; have HC := Lib.hid hc24; replace hS := hS.callOwn hk24; clear hk24 hc24; simp only [List.cons_append, List.nil_append] at hS; obtain ⟨m25, hS25, hle25, hrd25⟩ := hS.settleRow (L := itL) 0 rfl HC.out hb1.out; have HRD := Lib.hid hrd25; have HLE2 := Lib.hid hle25; replace hS := hS25; clear hS25 hle25 hrd25)
      | (go_at_call 29; refine (mfind_c _ _ hS.inw _ _ _ _ M.l HRD.out HSo.out hl _ rfl rfl).mono ?_; rintro e' w29 ⟨_, m29, rfl, ⟨i, B, hP, hB, rfl⟩, hk⟩; replace hS := hS.grow (grownBy_of_below hk.below); clear hk)
      | (go_at_call 33; refine (nearest_c _ _ hS.inw _ _ M HRD.out HOk.out _ _ (Lay.mono _ (HLE.out.trans HLE2.out) A1.out) HF.out _ HKK.out).mono ?_; rintro e' w74 ⟨_, m74, rfl, ⟨p74, c74, R74, HR74, rfl, H74⟩, hk⟩; replace hS := hS.call hk; have HLE3 := Lib.hid hk.le; clear hk))
    replace hS := hS.drew
    refine startL (S := Sx _ [(b2, _)]) (by kernel_rfl) (hS.sx0.cons hS (by (repeat constructor))) (fun _ _ _ _ => trivial) (fun hHeld => ?_)
    refine takeN 0 rfl (by kernel_rfl) (yield_loads rfl rowT24 rfl (by (first | (apply FindsX.box; (· (repeat constructor)); (· (repeat constructor)); done) | (refine FindsX.mem (by assumption) ?_; first | rfl | assumption | (simp; done))))) ?_
    try simp only [Act.put, nz1, nz2, nz3]
    focus (refine takeN 2 (v := ?_) rfl (by kernel_rfl) ?_ ?_; rotate_left; focus (intro w hSw; clear hSw; go_simp; try with_reducible rfl))
    try simp only [Act.put, nz1, nz2, nz3]
    refine wpAnyH_ready (rs := [1, 3]) (by kernel_rfl) (by simp) ?_
    refine consL 1 rfl (fun K hK => ?_) (consL 3 rfl (fun K hK => ?_) AllReadyH.nil)
    rotate_right
    focus
      (with_reducible apply s_stores hS); (· exact rowT24); (· exact rfl); (· exact rfl); (· exact rfl); (· (first | assumption | (simp [Value.oneCell']; done))); (· (repeat constructor)); (· (repeat constructor)); (· (repeat constructor)); clear hS; intro ws hS
      refine hK.out _ _ (by first | exact (hS.sx0.cons hS (by (repeat constructor))) | exact Sx.le (by assumption) (hS.sx0.cons hS (by (repeat constructor)))) (fun hHeld => ?_)
      clear hK K
      try simp only [Act.put, nz1, nz2, nz3]
      refine wpAnyH_ready (rs := [1]) (by kernel_rfl) (by simp) ?_
      refine consL 1 rfl (fun K hK => ?_) AllReadyH.nil
      (with_reducible apply s_loads hS); (· exact rowT36); (· exact rfl); (· (first | (apply Finds.box; (· (repeat constructor)); (· (repeat constructor)); done) | (refine Finds.mem2 (by assumption) ?_; first | rfl | assumption | (simp; done)) | (apply Finds.row; (· (repeat constructor)); (· assumption); (· rfl))))
      refine hK.out _ _ (by first | exact (hS.sx0.cons hS (by (repeat constructor))) | exact Sx.le (by assumption) (hS.sx0.cons hS (by (repeat constructor)))) (fun hHeld => ?_)
      clear hK K
      try simp only [Act.put, nz1, nz2, nz3]
      refine wpAnyH_ready (rs := [4]) (by kernel_rfl) (by simp) ?_
      refine consL 4 rfl (fun K hK => ?_) AllReadyH.nil
      (with_reducible apply s_stores hS); (· exact rowT36); (· exact rfl); (· exact rfl); (· exact rfl); (· (first | assumption | (simp [Value.oneCell']; done))); (· (repeat constructor)); (· (repeat constructor)); (· (repeat constructor)); clear hS; intro ws hS
      refine hK.out _ _ (by first | exact (hS.sx0.cons hS (by (repeat constructor))) | exact Sx.le (by assumption) (hS.sx0.cons hS (by (repeat constructor)))) (fun hHeld => ?_)
      clear hK K
      try simp only [Act.put, nz1, nz2, nz3]
      focus (refine takeN 5 (v := ?_) rfl (by kernel_rfl) ?_ ?_; rotate_left; focus (intro w hSw; clear hSw; go_simp; try with_reducible rfl))
      try simp only [Act.put, nz1, nz2, nz3]
      refine wpAnyH_done (by kernel_rfl) ?_ _
      refine NoPanic.normal ?_
    rotate_right
    focus
      (with_reducible apply s_loads hS); (· exact rowT36); (· exact rfl); (· (first | (apply Finds.box; (· (repeat constructor)); (· (repeat constructor)); done) | (refine Finds.mem2 (by assumption) ?_; first | rfl | assumption | (simp; done)) | (apply Finds.row; (· (repeat constructor)); (· assumption); (· rfl))))
      refine hK.out _ _ (by first | exact (hS.sx0.cons hS (by (repeat constructor))) | exact Sx.le (by assumption) (hS.sx0.cons hS (by (repeat constructor)))) (fun hHeld => ?_)
      clear hK K
      try simp only [Act.put, nz1, nz2, nz3]
      refine wpAnyH_ready (rs := [3]) (by kernel_rfl) (by simp) ?_
      refine consL 3 rfl (fun K hK => ?_) AllReadyH.nil
      (with_reducible apply s_stores hS); (· exact rowT24); (· exact rfl); (· exact rfl); (· exact rfl); (· (first | assumption | (simp [Value.oneCell']; done))); (· (repeat constructor)); (· (repeat constructor)); (· (repeat constructor)); clear hS; intro ws hS
      refine hK.out _ _ (by first | exact (hS.sx0.cons hS (by (repeat constructor))) | exact Sx.le (by assumption) (hS.sx0.cons hS (by (repeat constructor)))) (fun hHeld => ?_)
      clear hK K
      try simp only [Act.put, nz1, nz2, nz3]
      refine wpAnyH_ready (rs := [4]) (by kernel_rfl) (by simp) ?_
      refine consL 4 rfl (fun K hK => ?_) AllReadyH.nil
      (with_reducible apply s_stores hS); (· exact rowT36); (· exact rfl); (· exact rfl); (· exact rfl); (· (first | assumption | (simp [Value.oneCell']; done))); (· (repeat constructor)); (· (repeat constructor)); (· (repeat constructor)); clear hS; intro ws hS
      refine hK.out _ _ (by first | exact (hS.sx0.cons hS (by (repeat constructor))) | exact Sx.le (by assumption) (hS.sx0.cons hS (by (repeat constructor)))) (fun hHeld => ?_)
      clear hK K
      try simp only [Act.put, nz1, nz2, nz3]
      focus (refine takeN 5 (v := ?_) rfl (by kernel_rfl) ?_ ?_; rotate_left; focus (intro w hSw; clear hSw; go_simp; try with_reducible rfl))
      try simp only [Act.put, nz1, nz2, nz3]
      refine wpAnyH_done (by kernel_rfl) ?_ _
      refine NoPanic.normal ?_
    all_goals
      go_wp2_with fail
      refine ret_cell2_tmp (n := 3) (n2 := 4) Tryz.results9 rfl rfl hS (by (repeat constructor)) (by rfl) (by (repeat constructor)) (by rfl) rowT24 rowT36 rfl ?_
      have hfin := hS.done
      exact ⟨_, m74, rfl, ⟨⟨M.cap, M.dim, M.l⟩, ⟨0, [], R74, 0⟩, 0, q24, c24, none, 0, p74, c74, HD.out.1.symm, (by show _ = _; rw [HD.out.2.1, HR74.out]; rfl), HD.out.2.2.symm, rfl, Lib.hid (Lay.mono _ HLE3.out HRD.out), Lay.nil_rd _ _, H74⟩, ⟨hfin.kept, hfin.has, hfin.apart, hfin.know, HLE.out.trans (HLE2.out.trans HLE3.out), hfin.new⟩⟩
set_option maxRecDepth 100000 in
set_option maxHeartbeats 8000000 in
theorem do_stats (m : Mem) (w : World) (hm : m.In w) (hG : ShAt m) (q : Option Addr) (c : Nat) (M : Md) (h : itL.list.rd m [.slice q M.l.length c] M.l) (kind id kk seed : Int) (v : List Int) (qv : Option Addr) (cv : Nat) (hv : vecL.rd m [.slice qv v.length cv] v) (hsd : seed ≤ 9223372036854775807)
    (hok : okM M) (hoa : okA ⟨kind, id, kk, seed, v⟩ M.dim M.cap) (hkind : kind = 6) :
    Calls Tryz.prog 9 #[.agg #[.int .i64 M.cap, .int .i64 M.dim, .slice q M.l.length c], .agg #[.int .i64 kind, .int .i64 id, .int .i64 kk, .int .i64 seed, .slice qv v.length cv]] w (Ret w m (DoQ M ⟨kind, id, kk, seed, v⟩)) := by
  have hS := St.start hm
  have A0 := Lib.hid h
  have A1 := Lib.hid hv
  have HG := Lib.hid hG
  have hn : M.l.length ≤ 256 := by have := hok.2.2.1; have := hok.1; omega
  have hl : M.l.length ≤ 1000 := by omega
  have hb1 : Hid (M.l.length * itL.bytes ≤ 140737488355328) := by show _ * 32 ≤ _; omega
  have HN := Lib.hid hn
  have HSo := Lib.hid hok.2.2.2.1
  have HOk := Lib.hid hok
  have HCk : Hid (chkM M = 0) := if_pos hok
  have HCa : Hid (chkA ⟨kind, id, kk, seed, v⟩ M.dim M.cap = 0) := if_pos hoa
  obtain ⟨d1, d2, d3⟩ := doM_ok hok hoa
  have e1 : doR M ⟨kind, id, kk, seed, v⟩ = { rp0 with n := M.l.length } := by
    unfold doR
    rw [if_neg (by rintro ⟨h, _⟩; simp only at h; omega), if_neg (by rintro ⟨h, _⟩; simp only at h; omega), if_neg (by rintro ⟨h, _⟩; simp only at h; omega), if_neg (by simp only; omega), if_neg (by simp only; omega), if_pos (by simp only; exact hkind)]
  have e2 : doL M ⟨kind, id, kk, seed, v⟩ = M.l := doL_read (by simp only; omega)
  rw [e2] at d1
  rw [e1] at d2
  have HD := Lib.hid (And.intro d1 (And.intro d2 d3))
  clear h hv hG hn hok hoa d1 d2 d3 e1 e2
  subst hkind
  all_goals
    go_enter Tryz.func9, Tryz.ntmps9
    go_wp2_with (first
    | ((with_reducible refine' Wl.out ?_; apply k_box (ty := 24) (y := (.tmp 0)) hS); (· exact .mk); clear hS; intro w2 b2 hS)
    | ((with_reducible refine' Wl.out ?_; apply k_box hS); (· exact .mk); clear hS; intro _ _ hS)
    | ((with_reducible refine' Wl.out ?_; apply k_alloc hS); (· exact .mk); clear hS; intro _ _ hS)
    | ((with_reducible refine' Wl.out ?_; apply k_load hS); (· exact .mk))
    | ((with_reducible refine' Wl.out ?_; apply k_loads hS); (· exact .mk))
    | go_skip
    | ((with_reducible refine' Wl.out ?_; apply kg_load hS); iterate 2 (· exact .mk))
    | ((with_reducible refine' Wl.out ?_; apply kg_loads hS); iterate 2 (· exact .mk))
    | ((with_reducible refine' Wl.out ?_; refine' wg_case ?_ ?_) <;> (intro hgW; (try (have hg2 := hgW; simp [go_sem] at hg2)); (first | (exfalso; assumption) | ((with_reducible refine' Wl.out ?_; apply k_no hgW)) | ((with_reducible refine' Wl.out ?_; apply kg_load hS ⟨hgW⟩); (· exact .mk)) | ((with_reducible refine' Wl.out ?_; apply kg_loads hS ⟨hgW⟩); (· exact .mk))); clear hgW))
    | ((with_reducible refine' Wl.out ?_; apply k_store hS); (· exact .mk); clear hS; intro ws hS)
    | ((with_reducible refine' Wl.out ?_; apply k_storeR hS); (· exact .mk); clear hS; intro ws hS)
    | ((with_reducible refine' Wl.out ?_; apply k_stores hS); (· exact .mk); clear hS; intro ws hS)
      | (go_at_call 17; refine (mcheck_c m _ hS.inw _ _ M A0.out).mono ?_; rintro e' wq ⟨_, mq, rfl, rfl, hk⟩; replace hS := hS.grow (grownBy_of_below hk.below); clear hk; rw [HCk.out])
      | (go_at_call 27; refine (acheck_c m _ hS.inw HG.out _ _ _ _ _ _ _ A1.out hsd _ _).mono ?_; rintro e' wq ⟨_, mq, rfl, rfl, hk⟩; replace hS := hS.grow (grownBy_of_below hk.below); clear hk; rw [HCa.out])
      | (go_at_call 28; refine (mown_c m _ hS.inw _ _ M A0.out).mono ?_; rintro e' w24 ⟨q24, c24, cells24, m24, rfl, hc24, hk24⟩; have HLE := Lib.hid hk24.le; have HC := Lib.hid hc24; replace hS := hS.callOwn hk24; clear hk24 hc24; simp only [List.cons_append, List.nil_append] at hS; obtain ⟨m25, hS25, hle25, hrd25⟩ := hS.settleRow (L := itL) 0 rfl HC.out hb1.out; have HRD := Lib.hid hrd25; have HLE2 := Lib.hid hle25; replace hS := hS25; clear hS25 hle25 hrd25)
      | (go_at_call 29; refine (mfind_c _ _ hS.inw _ _ _ _ M.l HRD.out HSo.out hl _ rfl rfl).mono ?_; rintro e' w29 ⟨_, m29, rfl, ⟨i, B, hP, hB, rfl⟩, hk⟩; replace hS := hS.grow (grownBy_of_below hk.below); clear hk))
    replace hS := hS.drew
    refine startL (S := Sx _ [(b2, _)]) (by kernel_rfl) (hS.sx0.cons hS (by (repeat constructor))) (fun _ _ _ _ => trivial) (fun hHeld => ?_)
    refine takeN 0 rfl (by kernel_rfl) (yield_loads rfl rowT24 rfl (by (first | (apply FindsX.box; (· (repeat constructor)); (· (repeat constructor)); done) | (refine FindsX.mem (by assumption) ?_; first | rfl | assumption | (simp; done))))) ?_
    try simp only [Act.put, nz1, nz2, nz3]
    focus (refine takeN 2 (v := ?_) rfl (by kernel_rfl) ?_ ?_; rotate_left; focus (intro w hSw; clear hSw; go_simp; try with_reducible rfl))
    try simp only [Act.put, nz1, nz2, nz3]
    refine wpAnyH_ready (rs := [1, 3]) (by kernel_rfl) (by simp) ?_
    refine consL 1 rfl (fun K hK => ?_) (consL 3 rfl (fun K hK => ?_) AllReadyH.nil)
    rotate_right
    focus
      (with_reducible apply s_stores hS); (· exact rowT24); (· exact rfl); (· exact rfl); (· exact rfl); (· (first | assumption | (simp [Value.oneCell']; done))); (· (repeat constructor)); (· (repeat constructor)); (· (repeat constructor)); clear hS; intro ws hS
      refine hK.out _ _ (by first | exact (hS.sx0.cons hS (by (repeat constructor))) | exact Sx.le (by assumption) (hS.sx0.cons hS (by (repeat constructor)))) (fun hHeld => ?_)
      clear hK K
      try simp only [Act.put, nz1, nz2, nz3]
      refine wpAnyH_ready (rs := [1]) (by kernel_rfl) (by simp) ?_
      refine consL 1 rfl (fun K hK => ?_) AllReadyH.nil
      (with_reducible apply s_loads hS); (· exact rowT36); (· exact rfl); (· (first | (apply Finds.box; (· (repeat constructor)); (· (repeat constructor)); done) | (refine Finds.mem2 (by assumption) ?_; first | rfl | assumption | (simp; done)) | (apply Finds.row; (· (repeat constructor)); (· assumption); (· rfl))))
      refine hK.out _ _ (by first | exact (hS.sx0.cons hS (by (repeat constructor))) | exact Sx.le (by assumption) (hS.sx0.cons hS (by (repeat constructor)))) (fun hHeld => ?_)
      clear hK K
      try simp only [Act.put, nz1, nz2, nz3]
      refine wpAnyH_ready (rs := [4]) (by kernel_rfl) (by simp) ?_
      refine consL 4 rfl (fun K hK => ?_) AllReadyH.nil
      (with_reducible apply s_stores hS); (· exact rowT36); (· exact rfl); (· exact rfl); (· exact rfl); (· (first | assumption | (simp [Value.oneCell']; done))); (· (repeat constructor)); (· (repeat constructor)); (· (repeat constructor)); clear hS; intro ws hS
      refine hK.out _ _ (by first | exact (hS.sx0.cons hS (by (repeat constructor))) | exact Sx.le (by assumption) (hS.sx0.cons hS (by (repeat constructor)))) (fun hHeld => ?_)
      clear hK K
      try simp only [Act.put, nz1, nz2, nz3]
      focus (refine takeN 5 (v := ?_) rfl (by kernel_rfl) ?_ ?_; rotate_left; focus (intro w hSw; clear hSw; go_simp; try with_reducible rfl))
      try simp only [Act.put, nz1, nz2, nz3]
      refine wpAnyH_done (by kernel_rfl) ?_ _
      refine NoPanic.normal ?_
    rotate_right
    focus
      (with_reducible apply s_loads hS); (· exact rowT36); (· exact rfl); (· (first | (apply Finds.box; (· (repeat constructor)); (· (repeat constructor)); done) | (refine Finds.mem2 (by assumption) ?_; first | rfl | assumption | (simp; done)) | (apply Finds.row; (· (repeat constructor)); (· assumption); (· rfl))))
      refine hK.out _ _ (by first | exact (hS.sx0.cons hS (by (repeat constructor))) | exact Sx.le (by assumption) (hS.sx0.cons hS (by (repeat constructor)))) (fun hHeld => ?_)
      clear hK K
      try simp only [Act.put, nz1, nz2, nz3]
      refine wpAnyH_ready (rs := [3]) (by kernel_rfl) (by simp) ?_
      refine consL 3 rfl (fun K hK => ?_) AllReadyH.nil
      (with_reducible apply s_stores hS); (· exact rowT24); (· exact rfl); (· exact rfl); (· exact rfl); (· (first | assumption | (simp [Value.oneCell']; done))); (· (repeat constructor)); (· (repeat constructor)); (· (repeat constructor)); clear hS; intro ws hS
      refine hK.out _ _ (by first | exact (hS.sx0.cons hS (by (repeat constructor))) | exact Sx.le (by assumption) (hS.sx0.cons hS (by (repeat constructor)))) (fun hHeld => ?_)
      clear hK K
      try simp only [Act.put, nz1, nz2, nz3]
      refine wpAnyH_ready (rs := [4]) (by kernel_rfl) (by simp) ?_
      refine consL 4 rfl (fun K hK => ?_) AllReadyH.nil
      (with_reducible apply s_stores hS); (· exact rowT36); (· exact rfl); (· exact rfl); (· exact rfl); (· (first | assumption | (simp [Value.oneCell']; done))); (· (repeat constructor)); (· (repeat constructor)); (· (repeat constructor)); clear hS; intro ws hS
      refine hK.out _ _ (by first | exact (hS.sx0.cons hS (by (repeat constructor))) | exact Sx.le (by assumption) (hS.sx0.cons hS (by (repeat constructor)))) (fun hHeld => ?_)
      clear hK K
      try simp only [Act.put, nz1, nz2, nz3]
      focus (refine takeN 5 (v := ?_) rfl (by kernel_rfl) ?_ ?_; rotate_left; focus (intro w hSw; clear hSw; go_simp; try with_reducible rfl))
      try simp only [Act.put, nz1, nz2, nz3]
      refine wpAnyH_done (by kernel_rfl) ?_ _
      refine NoPanic.normal ?_
    all_goals
      go_wp2_with fail
      refine ret_cell2_tmp (n := 3) (n2 := 4) Tryz.results9 rfl rfl hS (by (repeat constructor)) (by rfl) (by (repeat constructor)) (by rfl) rowT24 rowT36 rfl ?_
      have hfin := hS.done
      exact ⟨_, m25, rfl, ⟨⟨M.cap, M.dim, M.l⟩, ⟨0, [], [], M.l.length⟩, 0, q24, c24, none, 0, none, 0, HD.out.1.symm, HD.out.2.1.symm, HD.out.2.2.symm, rfl, HRD, Lay.nil_rd _ _, Lay.nil_rd _ _⟩, ⟨hfin.kept, hfin.has, hfin.apart, hfin.know, HLE.out.trans HLE2.out, hfin.new⟩⟩
set_option maxRecDepth 100000 in
set_option maxHeartbeats 8000000 in
theorem do_nop (m : Mem) (w : World) (hm : m.In w) (hG : ShAt m) (q : Option Addr) (c : Nat) (M : Md) (h : itL.list.rd m [.slice q M.l.length c] M.l) (kind id kk seed : Int) (v : List Int) (qv : Option Addr) (cv : Nat) (hv : vecL.rd m [.slice qv v.length cv] v) (hsd : seed ≤ 9223372036854775807)
    (hok : okM M) (hoa : okA ⟨kind, id, kk, seed, v⟩ M.dim M.cap) (hkind : kind = 7 ∨ kind = 8) :
    Calls Tryz.prog 9 #[.agg #[.int .i64 M.cap, .int .i64 M.dim, .slice q M.l.length c], .agg #[.int .i64 kind, .int .i64 id, .int .i64 kk, .int .i64 seed, .slice qv v.length cv]] w (Ret w m (DoQ M ⟨kind, id, kk, seed, v⟩)) := by
  have hS := St.start hm
  have A0 := Lib.hid h
  have A1 := Lib.hid hv
  have HG := Lib.hid hG
  have hn : M.l.length ≤ 256 := by have := hok.2.2.1; have := hok.1; omega
  have hl : M.l.length ≤ 1000 := by omega
  have hb1 : Hid (M.l.length * itL.bytes ≤ 140737488355328) := by show _ * 32 ≤ _; omega
  have HN := Lib.hid hn
  have HSo := Lib.hid hok.2.2.2.1
  have HOk := Lib.hid hok
  have HCk : Hid (chkM M = 0) := if_pos hok
  have HCa : Hid (chkA ⟨kind, id, kk, seed, v⟩ M.dim M.cap = 0) := if_pos hoa
  obtain ⟨d1, d2, d3⟩ := doM_ok hok hoa
  have e1 : doR M ⟨kind, id, kk, seed, v⟩ = rp0 := by
    unfold doR
    rw [if_neg (by rintro ⟨h, _⟩; simp only at h; omega), if_neg (by rintro ⟨h, _⟩; simp only at h; omega), if_neg (by rintro ⟨h, _⟩; simp only at h; omega), if_neg (by simp only; omega), if_neg (by simp only; omega), if_neg (by simp only; omega)]
  have e2 : doL M ⟨kind, id, kk, seed, v⟩ = M.l := doL_read (by simp only; omega)
  rw [e2] at d1
  rw [e1] at d2
  have HD := Lib.hid (And.intro d1 (And.intro d2 d3))
  clear h hv hG hn hok hoa d1 d2 d3 e1 e2
  rcases hkind with rfl | rfl
  all_goals
    go_enter Tryz.func9, Tryz.ntmps9
    go_wp2_with (first
    | ((with_reducible refine' Wl.out ?_; apply k_box (ty := 24) (y := (.tmp 0)) hS); (· exact .mk); clear hS; intro w2 b2 hS)
    | ((with_reducible refine' Wl.out ?_; apply k_box hS); (· exact .mk); clear hS; intro _ _ hS)
    | ((with_reducible refine' Wl.out ?_; apply k_alloc hS); (· exact .mk); clear hS; intro _ _ hS)
    | ((with_reducible refine' Wl.out ?_; apply k_load hS); (· exact .mk))
    | ((with_reducible refine' Wl.out ?_; apply k_loads hS); (· exact .mk))
    | go_skip
    | ((with_reducible refine' Wl.out ?_; apply kg_load hS); iterate 2 (· exact .mk))
    | ((with_reducible refine' Wl.out ?_; apply kg_loads hS); iterate 2 (· exact .mk))
    | ((with_reducible refine' Wl.out ?_; refine' wg_case ?_ ?_) <;> (intro hgW; (try (have hg2 := hgW; simp [go_sem] at hg2)); (first | (exfalso; assumption) | ((with_reducible refine' Wl.out ?_; apply k_no hgW)) | ((with_reducible refine' Wl.out ?_; apply kg_load hS ⟨hgW⟩); (· exact .mk)) | ((with_reducible refine' Wl.out ?_; apply kg_loads hS ⟨hgW⟩); (· exact .mk))); clear hgW))
    | ((with_reducible refine' Wl.out ?_; apply k_store hS); (· exact .mk); clear hS; intro ws hS)
    | ((with_reducible refine' Wl.out ?_; apply k_storeR hS); (· exact .mk); clear hS; intro ws hS)
    | ((with_reducible refine' Wl.out ?_; apply k_stores hS); (· exact .mk); clear hS; intro ws hS)
      | (go_at_call 17; refine (mcheck_c m _ hS.inw _ _ M A0.out).mono ?_; rintro e' wq ⟨_, mq, rfl, rfl, hk⟩; replace hS := hS.grow (grownBy_of_below hk.below); clear hk; rw [HCk.out])
      | (go_at_call 27; refine (acheck_c m _ hS.inw HG.out _ _ _ _ _ _ _ A1.out hsd _ _).mono ?_; rintro e' wq ⟨_, mq, rfl, rfl, hk⟩; replace hS := hS.grow (grownBy_of_below hk.below); clear hk; rw [HCa.out])
      | (go_at_call 28; refine (mown_c m _ hS.inw _ _ M A0.out).mono ?_; rintro e' w24 ⟨q24, c24, cells24, m24, rfl, hc24, hk24⟩; have HLE := Lib.hid hk24.le; have HC := Lib.hid hc24; replace hS := hS.callOwn hk24; clear hk24 hc24; simp only [List.cons_append, List.nil_append] at hS; obtain ⟨m25, hS25, hle25, hrd25⟩ := hS.settleRow (L := itL) 0 rfl HC.out hb1.out; have HRD := Lib.hid hrd25; have HLE2 := Lib.hid hle25; replace hS := hS25; clear hS25 hle25 hrd25)
      | (go_at_call 29; refine (mfind_c _ _ hS.inw _ _ _ _ M.l HRD.out HSo.out hl _ rfl rfl).mono ?_; rintro e' w29 ⟨_, m29, rfl, ⟨i, B, hP, hB, rfl⟩, hk⟩; replace hS := hS.grow (grownBy_of_below hk.below); clear hk))
    replace hS := hS.drew
    refine startL (S := Sx _ [(b2, _)]) (by kernel_rfl) (hS.sx0.cons hS (by (repeat constructor))) (fun _ _ _ _ => trivial) (fun hHeld => ?_)
    refine takeN 0 rfl (by kernel_rfl) (yield_loads rfl rowT24 rfl (by (first | (apply FindsX.box; (· (repeat constructor)); (· (repeat constructor)); done) | (refine FindsX.mem (by assumption) ?_; first | rfl | assumption | (simp; done))))) ?_
    try simp only [Act.put, nz1, nz2, nz3]
    focus (refine takeN 2 (v := ?_) rfl (by kernel_rfl) ?_ ?_; rotate_left; focus (intro w hSw; clear hSw; go_simp; try with_reducible rfl))
    try simp only [Act.put, nz1, nz2, nz3]
    refine wpAnyH_ready (rs := [1, 3]) (by kernel_rfl) (by simp) ?_
    refine consL 1 rfl (fun K hK => ?_) (consL 3 rfl (fun K hK => ?_) AllReadyH.nil)
    rotate_right
    focus
      (with_reducible apply s_stores hS); (· exact rowT24); (· exact rfl); (· exact rfl); (· exact rfl); (· (first | assumption | (simp [Value.oneCell']; done))); (· (repeat constructor)); (· (repeat constructor)); (· (repeat constructor)); clear hS; intro ws hS
      refine hK.out _ _ (by first | exact (hS.sx0.cons hS (by (repeat constructor))) | exact Sx.le (by assumption) (hS.sx0.cons hS (by (repeat constructor)))) (fun hHeld => ?_)
      clear hK K
      try simp only [Act.put, nz1, nz2, nz3]
      refine wpAnyH_ready (rs := [1]) (by kernel_rfl) (by simp) ?_
      refine consL 1 rfl (fun K hK => ?_) AllReadyH.nil
      (with_reducible apply s_loads hS); (· exact rowT36); (· exact rfl); (· (first | (apply Finds.box; (· (repeat constructor)); (· (repeat constructor)); done) | (refine Finds.mem2 (by assumption) ?_; first | rfl | assumption | (simp; done)) | (apply Finds.row; (· (repeat constructor)); (· assumption); (· rfl))))
      refine hK.out _ _ (by first | exact (hS.sx0.cons hS (by (repeat constructor))) | exact Sx.le (by assumption) (hS.sx0.cons hS (by (repeat constructor)))) (fun hHeld => ?_)
      clear hK K
      try simp only [Act.put, nz1, nz2, nz3]
      refine wpAnyH_ready (rs := [4]) (by kernel_rfl) (by simp) ?_
      refine consL 4 rfl (fun K hK => ?_) AllReadyH.nil
      (with_reducible apply s_stores hS); (· exact rowT36); (· exact rfl); (· exact rfl); (· exact rfl); (· (first | assumption | (simp [Value.oneCell']; done))); (· (repeat constructor)); (· (repeat constructor)); (· (repeat constructor)); clear hS; intro ws hS
      refine hK.out _ _ (by first | exact (hS.sx0.cons hS (by (repeat constructor))) | exact Sx.le (by assumption) (hS.sx0.cons hS (by (repeat constructor)))) (fun hHeld => ?_)
      clear hK K
      try simp only [Act.put, nz1, nz2, nz3]
      focus (refine takeN 5 (v := ?_) rfl (by kernel_rfl) ?_ ?_; rotate_left; focus (intro w hSw; clear hSw; go_simp; try with_reducible rfl))
      try simp only [Act.put, nz1, nz2, nz3]
      refine wpAnyH_done (by kernel_rfl) ?_ _
      refine NoPanic.normal ?_
    rotate_right
    focus
      (with_reducible apply s_loads hS); (· exact rowT36); (· exact rfl); (· (first | (apply Finds.box; (· (repeat constructor)); (· (repeat constructor)); done) | (refine Finds.mem2 (by assumption) ?_; first | rfl | assumption | (simp; done)) | (apply Finds.row; (· (repeat constructor)); (· assumption); (· rfl))))
      refine hK.out _ _ (by first | exact (hS.sx0.cons hS (by (repeat constructor))) | exact Sx.le (by assumption) (hS.sx0.cons hS (by (repeat constructor)))) (fun hHeld => ?_)
      clear hK K
      try simp only [Act.put, nz1, nz2, nz3]
      refine wpAnyH_ready (rs := [3]) (by kernel_rfl) (by simp) ?_
      refine consL 3 rfl (fun K hK => ?_) AllReadyH.nil
      (with_reducible apply s_stores hS); (· exact rowT24); (· exact rfl); (· exact rfl); (· exact rfl); (· (first | assumption | (simp [Value.oneCell']; done))); (· (repeat constructor)); (· (repeat constructor)); (· (repeat constructor)); clear hS; intro ws hS
      refine hK.out _ _ (by first | exact (hS.sx0.cons hS (by (repeat constructor))) | exact Sx.le (by assumption) (hS.sx0.cons hS (by (repeat constructor)))) (fun hHeld => ?_)
      clear hK K
      try simp only [Act.put, nz1, nz2, nz3]
      refine wpAnyH_ready (rs := [4]) (by kernel_rfl) (by simp) ?_
      refine consL 4 rfl (fun K hK => ?_) AllReadyH.nil
      (with_reducible apply s_stores hS); (· exact rowT36); (· exact rfl); (· exact rfl); (· exact rfl); (· (first | assumption | (simp [Value.oneCell']; done))); (· (repeat constructor)); (· (repeat constructor)); (· (repeat constructor)); clear hS; intro ws hS
      refine hK.out _ _ (by first | exact (hS.sx0.cons hS (by (repeat constructor))) | exact Sx.le (by assumption) (hS.sx0.cons hS (by (repeat constructor)))) (fun hHeld => ?_)
      clear hK K
      try simp only [Act.put, nz1, nz2, nz3]
      focus (refine takeN 5 (v := ?_) rfl (by kernel_rfl) ?_ ?_; rotate_left; focus (intro w hSw; clear hSw; go_simp; try with_reducible rfl))
      try simp only [Act.put, nz1, nz2, nz3]
      refine wpAnyH_done (by kernel_rfl) ?_ _
      refine NoPanic.normal ?_
    all_goals
      go_wp2_with fail
      refine ret_cell2_tmp (n := 3) (n2 := 4) Tryz.results9 rfl rfl hS (by (repeat constructor)) (by rfl) (by (repeat constructor)) (by rfl) rowT24 rowT36 rfl ?_
      have hfin := hS.done
      exact ⟨_, m25, rfl, ⟨⟨M.cap, M.dim, M.l⟩, ⟨0, [], [], 0⟩, 0, q24, c24, none, 0, none, 0, HD.out.1.symm, HD.out.2.1.symm, HD.out.2.2.symm, rfl, HRD, Lay.nil_rd _ _, Lay.nil_rd _ _⟩, ⟨hfin.kept, hfin.has, hfin.apart, hfin.know, HLE.out.trans HLE2.out, hfin.new⟩⟩
theorem do_a (m : Mem) (w : World) (hm : m.In w) (hG : ShAt m) (q : Option Addr) (c : Nat) (M : Md) (h : itL.list.rd m [.slice q M.l.length c] M.l) (kind id kk seed : Int) (v : List Int) (qv : Option Addr) (cv : Nat) (hv : vecL.rd m [.slice qv v.length cv] v) (hsd : seed ≤ 9223372036854775807) (hid : InK .i64 id) :
    Calls Tryz.prog 9 #[.agg #[.int .i64 M.cap, .int .i64 M.dim, .slice q M.l.length c], .agg #[.int .i64 kind, .int .i64 id, .int .i64 kk, .int .i64 seed, .slice qv v.length cv]] w (Ret w m (DoQ M ⟨kind, id, kk, seed, v⟩)) := by
  by_cases hk : kind ≤ 4
  · exact do_w m w hm hG q c M h kind id kk seed v qv cv hv hsd hid hk
  by_cases hok : okM M ∧ okA ⟨kind, id, kk, seed, v⟩ M.dim M.cap
  · have h8 : kind ≤ 8 := hok.2.2.1.2
    by_cases h5 : kind = 5
    · exact do_query m w hm hG q c M h kind id kk seed v qv cv hv hsd hok.1 hok.2 h5
    · by_cases h6 : kind = 6
      · exact do_stats m w hm hG q c M h kind id kk seed v qv cv hv hsd hok.1 hok.2 h6
      · exact do_nop m w hm hG q c M h kind id kk seed v qv cv hv hsd hok.1 hok.2 (by omega)
  · exact do_bad m w hm hG q c M h kind id kk seed v qv cv hv hsd hok
end Go.Proofs.YtnbhhdncbajkgaaGreatDoor
