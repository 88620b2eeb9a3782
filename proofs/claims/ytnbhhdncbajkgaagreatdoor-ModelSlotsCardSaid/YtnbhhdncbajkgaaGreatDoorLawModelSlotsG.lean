/- The walk of ModelSlots. -/
import Derived.Test.YtnbhhdncbajkgaaGreatDoorLv3G
import Derived.Test.YtnbhhdncbajkgaaGreatDoorMd21G
import Derived.Test.YtnbhhdncbajkgaaGreatDoorG4
import Derived.Test.YtnbhhdncbajkgaaGreatDoorG3
import Derived.Deep.CutBlock
namespace Go.Proofs.YtnbhhdncbajkgaaGreatDoor
set_option linter.unusedVariables false
set_option linter.unusedSimpArgs false
open Go.RowKit Go.Shelf
theorem slots_del {s : Sl} {z : Int} (h : dirOK s) (hg : doE (mdOf s) (rmA z) = 0) : fiE s z = (doP (mdOf s) (rmA z)).e ∧ (fiE s z = 0 → dirOK (delR s z) ∧ mdOf (delR s z) = doM (mdOf s) (rmA z)) := by
  have hM := mdOf_ok h
  have ka : okA (rmA z) (mdOf s).dim (mdOf s).cap := by
    unfold doE at hg
    split at hg
    · rename_i hh; exact hh.2
    · cases hg
  have hz : 0 ≤ z ∧ z ≤ 2147483647 := okA_id ka (by simp [rmA])
  obtain ⟨d1, d2, d3⟩ := doM_ok hM ka
  have hr := (doR_del (m := mdOf s) (a := rmA z) rfl).1
  have hget : (dirF s s.ids.length z).isSome = (getM (mdOf s).l (rmA z).id).isSome := slots_find h hz
  have he : fiE s z = (doR (mdOf s) (rmA z)).e := by
    rw [hr, ← hget]
    unfold fiE
    rw [if_pos ⟨h, hz⟩]
    cases (dirF s s.ids.length z).isSome <;> rfl
  rw [d2]
  refine ⟨he, fun h0 => ?_⟩
  obtain ⟨_, i, hi, e1, e2, e3⟩ := fiE_ok h0
  have hR : delR s z = delS s i := by unfold delR; rw [if_pos h0, e1]; rfl
  rw [hR, d1, doL_del rfl (he.symm.trans h0)]
  exact ⟨dir_del h hi, mod_del h hi e2 e3⟩
theorem slots_query {s : Sl} {k : Int} {v : List Int} (h : dirOK s) : mayE s v k = doE (mdOf s) ⟨5, 0, k, 0, v⟩ ∧ bruteR s v k = (doP (mdOf s) ⟨5, 0, k, 0, v⟩).hits := by
  have hM := mdOf_ok h
  have hiff : mayP s v k ↔ okM (mdOf s) ∧ okA ⟨5, 0, k, 0, v⟩ (mdOf s).dim (mdOf s).cap := by
    constructor
    · rintro ⟨_, h2, h3, h4, h5⟩
      refine ⟨hM, ⟨hM.2.1, hM.1⟩, by simp, by simp, ?_, by simp, ?_⟩
      · rw [if_pos rfl]; exact ⟨h4, h5⟩
      · rw [if_pos (.inr (.inr rfl))]; exact ⟨h3, h2⟩
    · rintro ⟨_, _, _, _, k1, _, k2⟩
      rw [if_pos rfl] at k1
      rw [if_pos (.inr (.inr rfl))] at k2
      exact ⟨h, k2.2, k2.1, k1.1, k1.2⟩
  by_cases hm : mayP s v k
  · have ho := hiff.1 hm
    refine ⟨by unfold mayE doE; rw [if_pos hm, if_pos ho], ?_⟩
    unfold bruteR
    rw [if_pos hm, (doM_ok ho.1 ho.2).2.1]
    unfold doR
    rw [if_neg (by rintro ⟨h, _⟩; simp only at h; omega), if_neg (by rintro ⟨h, _⟩; simp only at h; omega), if_neg (by rintro ⟨h, _⟩; simp only at h; omega), if_neg (by simp only; omega), if_pos rfl]
    exact slots_near h _
  · have ho : ¬ (okM (mdOf s) ∧ okA ⟨5, 0, k, 0, v⟩ (mdOf s).dim (mdOf s).cap) := fun hh => hm (hiff.2 hh)
    refine ⟨by unfold mayE doE; rw [if_neg hm, if_neg ho], ?_⟩
    unfold bruteR
    rw [if_neg hm, (doM_bad ho).2.1]
    rfl
set_option maxRecDepth 100000 in
set_option maxHeartbeats 16000000 in
theorem walkModelSlots (w : World) (hG : ShAt (World.mem w)) (vs : Value) (s : Sl) (hs : ∃ q1 c1 q2 c2, vs = .agg #[.int .i64 s.dim, .slice q1 s.ids.length c1, .slice q2 s.vecs.length c2] ∧ slL.rd (World.mem w) [.int .i64 s.dim, .slice q1 s.ids.length c1, .slice q2 s.vecs.length c2] s) (z : Int) (hz : (Lit.int .i64 z).wf = true) (vv : Value) (v : List Int) (hv : vecL.rd (World.mem w) [vv] v) (k : Int) (hk : (Lit.int .i64 k).wf = true) :
    Calls Tryz.prog 4 #[vs, .int .i64 z, vv, .int .i64 k] w fun e w' => e = .returned (.bool true) ∧ Below w.heap.size w w' := by
  obtain ⟨q1, c1, q2, c2, rfl, hs⟩ := hs
  obtain ⟨qv, cv, rfl, _⟩ := Lay.list_open hv
  have hS := St.start (World.mem_in w)
  have HG := Lib.hid hG
  have A0 := Lib.hid hs
  have A2 := Lib.hid hv
  have HZ : Hid (InK .i64 z) := by simp [Lit.wf] at hz; exact hz
  have HI0 : Hid (InK .i64 0) := inK64 (by decide) (by decide)
  clear hG hs hv hz hk
  by_cases hb : (200 : Int) < v.length
  · go_enter Tryz.func4, Tryz.ntmps4
    go_wp2_with (first
    | ((with_reducible refine' Wl.out ?_; apply k_box (ty := 32) (y := (.tmp 0)) hS); (· exact .mk); clear hS; intro w4 b4 hS)
    | ((with_reducible refine' Wl.out ?_; apply k_alloc (ty := 24) (dst := some 10) hS); (· exact .mk); clear hS; intro w10 b10 hS)
    | ((with_reducible refine' Wl.out ?_; apply k_alloc (ty := 32) (dst := some 13) hS); (· exact .mk); clear hS; intro w13 b13 hS)
    | ((with_reducible refine' Wl.out ?_; apply k_alloc (ty := 24) (dst := some 15) hS); (· exact .mk); clear hS; intro w15 b15 hS)
    | ((with_reducible refine' Wl.out ?_; apply k_alloc (ty := 36) (dst := some 16) hS); (· exact .mk); clear hS; intro w16 b16 hS)
    | ((with_reducible refine' Wl.out ?_; apply k_alloc (ty := 24) (dst := some 18) hS); (· exact .mk); clear hS; intro w18 b18 hS)
    | ((with_reducible refine' Wl.out ?_; apply k_alloc (ty := 32) (dst := some 21) hS); (· exact .mk); clear hS; intro w21 b21 hS)
    | ((with_reducible refine' Wl.out ?_; apply k_alloc (ty := 24) (dst := some 22) hS); (· exact .mk); clear hS; intro w22 b22 hS)
    | ((with_reducible refine' Wl.out ?_; apply k_load hS); (· exact .mk))
    | ((with_reducible refine' Wl.out ?_; apply k_loads hS); (· exact .mk))
    | go_skip
    | ((with_reducible refine' Wl.out ?_; apply kg_load hS); iterate 2 (· exact .mk))
    | ((with_reducible refine' Wl.out ?_; apply kg_loads hS); iterate 2 (· exact .mk))
    | ((with_reducible refine' Wl.out ?_; refine' wg_case ?_ ?_) <;> (intro hgW; (try (have hg2 := hgW; simp [go_sem] at hg2)); (first | (exfalso; assumption) | ((with_reducible refine' Wl.out ?_; apply k_no hgW)) | ((with_reducible refine' Wl.out ?_; apply kg_load hS ⟨hgW⟩); (· exact .mk)) | ((with_reducible refine' Wl.out ?_; apply kg_loads hS ⟨hgW⟩); (· exact .mk))); clear hgW))
    | ((with_reducible refine' Wl.out ?_; apply k_stores hS); (· exact .mk); clear hS; intro ws hS)
      | (go_at_call 5; refine (live19_c _ _ hS.inw (ShAt.mono hS.le HG.out)).mono ?_; rintro e' w26 ⟨_, m26, rfl, rfl, hk⟩; replace hS := hS.grow (grownBy_of_below hk.below); clear hk)
      | (go_at_call 7; refine (few10_c _ _ hS.inw _ _ _ _ s A0.out).mono ?_; rintro e' w30 ⟨_, m30, rfl, ⟨B, rfl⟩, hk⟩; replace hS := hS.grow (grownBy_of_below hk.below); clear hk; cases B))
    all_goals (first | (go_ret; exact ⟨rfl, hS.below⟩) | (go_ret; refine ⟨?_, hS.below⟩; simp; done))
  by_cases hd : dirOK s
  case neg =>
    have hC : Hid (chkS s = 1) := if_neg hd
    clear hd
    go_enter Tryz.func4, Tryz.ntmps4
    go_wp2_with (first
    | ((with_reducible refine' Wl.out ?_; apply k_box (ty := 32) (y := (.tmp 0)) hS); (· exact .mk); clear hS; intro w4 b4 hS)
    | ((with_reducible refine' Wl.out ?_; apply k_alloc (ty := 24) (dst := some 10) hS); (· exact .mk); clear hS; intro w10 b10 hS)
    | ((with_reducible refine' Wl.out ?_; apply k_alloc (ty := 32) (dst := some 13) hS); (· exact .mk); clear hS; intro w13 b13 hS)
    | ((with_reducible refine' Wl.out ?_; apply k_alloc (ty := 24) (dst := some 15) hS); (· exact .mk); clear hS; intro w15 b15 hS)
    | ((with_reducible refine' Wl.out ?_; apply k_alloc (ty := 36) (dst := some 16) hS); (· exact .mk); clear hS; intro w16 b16 hS)
    | ((with_reducible refine' Wl.out ?_; apply k_alloc (ty := 24) (dst := some 18) hS); (· exact .mk); clear hS; intro w18 b18 hS)
    | ((with_reducible refine' Wl.out ?_; apply k_alloc (ty := 32) (dst := some 21) hS); (· exact .mk); clear hS; intro w21 b21 hS)
    | ((with_reducible refine' Wl.out ?_; apply k_alloc (ty := 24) (dst := some 22) hS); (· exact .mk); clear hS; intro w22 b22 hS)
    | ((with_reducible refine' Wl.out ?_; apply k_load hS); (· exact .mk))
    | ((with_reducible refine' Wl.out ?_; apply k_loads hS); (· exact .mk))
    | go_skip
    | ((with_reducible refine' Wl.out ?_; apply kg_load hS); iterate 2 (· exact .mk))
    | ((with_reducible refine' Wl.out ?_; apply kg_loads hS); iterate 2 (· exact .mk))
    | ((with_reducible refine' Wl.out ?_; refine' wg_case ?_ ?_) <;> (intro hgW; (try (have hg2 := hgW; simp [go_sem] at hg2)); (first | (exfalso; assumption) | ((with_reducible refine' Wl.out ?_; apply k_no hgW)) | ((with_reducible refine' Wl.out ?_; apply kg_load hS ⟨hgW⟩); (· exact .mk)) | ((with_reducible refine' Wl.out ?_; apply kg_loads hS ⟨hgW⟩); (· exact .mk))); clear hgW))
    | ((with_reducible refine' Wl.out ?_; apply k_stores hS); (· exact .mk); clear hS; intro ws hS)
      | (go_at_call 5; refine (live19_c _ _ hS.inw (ShAt.mono hS.le HG.out)).mono ?_; rintro e' w26 ⟨_, m26, rfl, rfl, hk⟩; replace hS := hS.grow (grownBy_of_below hk.below); clear hk)
      | (go_at_call 7; refine (few10_c _ _ hS.inw _ _ _ _ s A0.out).mono ?_; rintro e' w30 ⟨_, m30, rfl, ⟨B, rfl⟩, hk⟩; replace hS := hS.grow (grownBy_of_below hk.below); clear hk; cases B)
      | (go_at_call 13; refine (of_c _ _ hS.inw q1 q2 c1 c2 s A0.out).mono ?_; rintro e' w40 ⟨_, m40, rfl, ⟨T40, q40, c40, HT40, rfl, R40⟩, hk⟩; replace hS := hS.call hk; have HL40 := Lib.hid hk.le; (try replace A0 := Lib.hid (Lay.mono _ hk.le A0.out)); (try replace A2 := Lib.hid (Lay.mono _ hk.le A2.out)); (try replace R40 := Lib.hid (Lay.mono _ hk.le R40.out)); (try replace R56 := Lib.hid (Lay.mono _ hk.le R56.out)); (try replace R65 := Lib.hid (Lay.mono _ hk.le R65.out)); (try replace R73 := Lib.hid (Lay.mono _ hk.le R73.out)); (try replace R97 := Lib.hid (Lay.mono _ hk.le R97.out)); (try replace R105 := Lib.hid (Lay.mono _ hk.le R105.out)); (try replace H138 := Lib.hid (Lay.mono _ hk.le H138.out)); clear hk; rw [hC.out])
      | (go_at_call 21; refine (scheck_c _ _ hS.inw _ _ _ s A0.out).mono ?_; rintro e' wq ⟨_, mq, rfl, rfl, hk⟩; replace hS := hS.grow (grownBy_of_below hk.below); clear hk; rw [hC.out]))
    all_goals (first | (go_ret; exact ⟨rfl, hS.below⟩) | (go_ret; refine ⟨?_, hS.below⟩; simp; done))
  have hC : Hid (chkS s = 0) := if_pos hd
  have hN := Lib.hid hd
  have HSq := Lib.hid (slots_query (k := k) (v := v) hd)
  obtain ⟨FE, hFe⟩ : ∃ FE, fiE s z = FE := ⟨_, rfl⟩
  have hFE := Lib.hid hFe
  clear hd hFe
  go_enter Tryz.func4, Tryz.ntmps4
  go_upto_if 70 with (first
    | ((with_reducible refine' Wl.out ?_; apply k_box (ty := 32) (y := (.tmp 0)) hS); (· exact .mk); clear hS; intro w4 b4 hS)
    | ((with_reducible refine' Wl.out ?_; apply k_alloc (ty := 24) (dst := some 10) hS); (· exact .mk); clear hS; intro w10 b10 hS)
    | ((with_reducible refine' Wl.out ?_; apply k_alloc (ty := 32) (dst := some 13) hS); (· exact .mk); clear hS; intro w13 b13 hS)
    | ((with_reducible refine' Wl.out ?_; apply k_alloc (ty := 24) (dst := some 15) hS); (· exact .mk); clear hS; intro w15 b15 hS)
    | ((with_reducible refine' Wl.out ?_; apply k_alloc (ty := 36) (dst := some 16) hS); (· exact .mk); clear hS; intro w16 b16 hS)
    | ((with_reducible refine' Wl.out ?_; apply k_alloc (ty := 24) (dst := some 18) hS); (· exact .mk); clear hS; intro w18 b18 hS)
    | ((with_reducible refine' Wl.out ?_; apply k_alloc (ty := 32) (dst := some 21) hS); (· exact .mk); clear hS; intro w21 b21 hS)
    | ((with_reducible refine' Wl.out ?_; apply k_alloc (ty := 24) (dst := some 22) hS); (· exact .mk); clear hS; intro w22 b22 hS)
    | ((with_reducible refine' Wl.out ?_; apply k_load hS); (· exact .mk))
    | ((with_reducible refine' Wl.out ?_; apply k_loads hS); (· exact .mk))
    | go_skip
    | ((with_reducible refine' Wl.out ?_; apply kg_load hS); iterate 2 (· exact .mk))
    | ((with_reducible refine' Wl.out ?_; apply kg_loads hS); iterate 2 (· exact .mk))
    | ((with_reducible refine' Wl.out ?_; refine' wg_case ?_ ?_) <;> (intro hgW; (try (have hg2 := hgW; simp [go_sem] at hg2)); (first | (exfalso; assumption) | ((with_reducible refine' Wl.out ?_; apply k_no hgW)) | ((with_reducible refine' Wl.out ?_; apply kg_load hS ⟨hgW⟩); (· exact .mk)) | ((with_reducible refine' Wl.out ?_; apply kg_loads hS ⟨hgW⟩); (· exact .mk))); clear hgW))
    | ((with_reducible refine' Wl.out ?_; apply k_stores hS); (· exact .mk); clear hS; intro ws hS)
    | (go_at_call 5; refine (live19_c _ _ hS.inw (ShAt.mono hS.le HG.out)).mono ?_; rintro e' w26 ⟨_, m26, rfl, rfl, hk⟩; replace hS := hS.grow (grownBy_of_below hk.below); clear hk)
    | (go_at_call 7; refine (few10_c _ _ hS.inw _ _ _ _ s A0.out).mono ?_; rintro e' w30 ⟨_, m30, rfl, ⟨B, rfl⟩, hk⟩; replace hS := hS.grow (grownBy_of_below hk.below); clear hk; cases B)
    | (go_at_call 13; refine (of_c _ _ hS.inw q1 q2 c1 c2 s A0.out).mono ?_; rintro e' w40 ⟨_, m40, rfl, ⟨T40, q40, c40, HT40, rfl, R40⟩, hk⟩; replace hS := hS.call hk; have HL40 := Lib.hid hk.le; (try replace A0 := Lib.hid (Lay.mono _ hk.le A0.out)); (try replace A2 := Lib.hid (Lay.mono _ hk.le A2.out)); (try replace R40 := Lib.hid (Lay.mono _ hk.le R40.out)); (try replace R56 := Lib.hid (Lay.mono _ hk.le R56.out)); (try replace R65 := Lib.hid (Lay.mono _ hk.le R65.out)); (try replace R73 := Lib.hid (Lay.mono _ hk.le R73.out)); (try replace R97 := Lib.hid (Lay.mono _ hk.le R97.out)); (try replace R105 := Lib.hid (Lay.mono _ hk.le R105.out)); (try replace H138 := Lib.hid (Lay.mono _ hk.le H138.out)); clear hk; rw [hC.out]; replace HT40 := Lib.hid (HT40.out hN.out))
    | (go_at_call 22; refine (sput_c _ _ hS.inw q1 q2 c1 c2 s A0.out z HZ.out qv cv v A2.out).mono ?_; rintro e' w56 ⟨_, m56, rfl, ⟨I56, T56, E56, p56, d56, r56, f56, HP56, rfl, R56⟩, hk⟩; replace hS := hS.call hk; (try replace A0 := Lib.hid (Lay.mono _ hk.le A0.out)); (try replace A2 := Lib.hid (Lay.mono _ hk.le A2.out)); (try replace R40 := Lib.hid (Lay.mono _ hk.le R40.out)); (try replace R56 := Lib.hid (Lay.mono _ hk.le R56.out)); (try replace R65 := Lib.hid (Lay.mono _ hk.le R65.out)); (try replace R73 := Lib.hid (Lay.mono _ hk.le R73.out)); (try replace R97 := Lib.hid (Lay.mono _ hk.le R97.out)); (try replace R105 := Lib.hid (Lay.mono _ hk.le R105.out)); (try replace H138 := Lib.hid (Lay.mono _ hk.le H138.out)); clear hk)
    | (go_at_call 9; refine (do_a _ _ hS.inw (ShAt.mono hS.le HG.out) q40 c40 T40 R40.out 2 z 0 0 v qv cv A2.out (by decide) HZ.out).mono ?_; rintro e' w65 ⟨_, m65, rfl, ⟨T65, P65, E65, q65, c65, qv65, cv65, qh65, ch65, HT65, HP65, HE65, rfl, R65, V65, H65⟩, hk⟩; replace hS := hS.call hk; (try replace A0 := Lib.hid (Lay.mono _ hk.le A0.out)); (try replace A2 := Lib.hid (Lay.mono _ hk.le A2.out)); (try replace R40 := Lib.hid (Lay.mono _ hk.le R40.out)); (try replace R56 := Lib.hid (Lay.mono _ hk.le R56.out)); (try replace R65 := Lib.hid (Lay.mono _ hk.le R65.out)); (try replace R73 := Lib.hid (Lay.mono _ hk.le R73.out)); (try replace R97 := Lib.hid (Lay.mono _ hk.le R97.out)); (try replace R105 := Lib.hid (Lay.mono _ hk.le R105.out)); (try replace H138 := Lib.hid (Lay.mono _ hk.le H138.out)); clear hk; skip))
  all_goals first | ((first | (go_ret; exact ⟨rfl, hS.below⟩) | (go_ret; refine ⟨?_, hS.below⟩; simp; done)); done) | skip
  (try go_frame)
  go_cut [] from 26 to 93 (fun wc => ∃ m', Hid (m65.Le m') ∧ St [] w (World.mem w) wc [.box b16 [.int .i64 P65.e, .slice qv65 P65.v.length cv65, .slice qh65 P65.hits.length ch65, .int .i64 P65.n], .box b15 [.int .i64 T65.cap, .int .i64 T65.dim, .slice q65 T65.l.length c65], .box b13 [.int .i64 T56.dim, .slice p56 T56.ids.length d56, .slice r56 T56.vecs.length f56], .box b10 [.int .i64 T40.cap, .int .i64 T40.dim, .slice q40 T40.l.length c40], .box b4 [.int .i64 s.dim, .slice q1 s.ids.length c1, .slice q2 s.vecs.length c2]] m')
  case first =>
    by_cases hE : E65 = 0
    · obtain rfl : E65 = 0 := hE
      have hlaw := slots_put hN.out HP56.out (by have := HE65.out; rw [HT40.out] at this; exact this.symm)
      have he : E56 = P65.e := by rw [hlaw.1, HP65.out, HT40.out]; rfl
      have hne : (E56 != P65.e) = false := by simp [he]
      have HLw := Lib.hid hlaw.2
      clear hlaw he
      obtain ⟨X, hX⟩ : ∃ X, chkS T56 = X := ⟨_, rfl⟩
      have HX := Lib.hid hX
      clear hX
      by_cases hf : E56 = 0
      · have hl := HLw.out hf
        have HD56 := Lib.hid hl.1
        have HM56 := Lib.hid hl.2
        obtain rfl : X = 0 := HX.out.symm.trans (if_pos hl.1)
        have hf2 : (E56 == 0) = true := by simp [hf]
        clear hl hf HLw
        go_wp2_with (first
    | ((with_reducible refine' Wl.out ?_; apply k_no); (· rfl))
    | ((with_reducible refine' Wl.out ?_; apply k_box (ty := 32) (y := (.tmp 0)) hS); (· exact .mk); clear hS; intro w4 b4 hS)
    | ((with_reducible refine' Wl.out ?_; apply k_alloc (ty := 24) (dst := some 10) hS); (· exact .mk); clear hS; intro w10 b10 hS)
    | ((with_reducible refine' Wl.out ?_; apply k_alloc (ty := 32) (dst := some 13) hS); (· exact .mk); clear hS; intro w13 b13 hS)
    | ((with_reducible refine' Wl.out ?_; apply k_alloc (ty := 24) (dst := some 15) hS); (· exact .mk); clear hS; intro w15 b15 hS)
    | ((with_reducible refine' Wl.out ?_; apply k_alloc (ty := 36) (dst := some 16) hS); (· exact .mk); clear hS; intro w16 b16 hS)
    | ((with_reducible refine' Wl.out ?_; apply k_alloc (ty := 24) (dst := some 18) hS); (· exact .mk); clear hS; intro w18 b18 hS)
    | ((with_reducible refine' Wl.out ?_; apply k_alloc (ty := 32) (dst := some 21) hS); (· exact .mk); clear hS; intro w21 b21 hS)
    | ((with_reducible refine' Wl.out ?_; apply k_alloc (ty := 24) (dst := some 22) hS); (· exact .mk); clear hS; intro w22 b22 hS)
    | ((with_reducible refine' Wl.out ?_; apply k_load hS); (· exact .mk))
    | ((with_reducible refine' Wl.out ?_; apply k_loads hS); (· exact .mk))
    | go_skip
    | ((with_reducible refine' Wl.out ?_; apply kg_load hS); iterate 2 (· exact .mk))
    | ((with_reducible refine' Wl.out ?_; apply kg_loads hS); iterate 2 (· exact .mk))
    | ((with_reducible refine' Wl.out ?_; refine' wg_case ?_ ?_) <;> (intro hgW; (try (have hg2 := hgW; simp [go_sem] at hg2)); (first | (exfalso; assumption) | ((with_reducible refine' Wl.out ?_; apply k_no hgW)) | ((with_reducible refine' Wl.out ?_; apply kg_load hS ⟨hgW⟩); (· exact .mk)) | ((with_reducible refine' Wl.out ?_; apply kg_loads hS ⟨hgW⟩); (· exact .mk))); clear hgW))
    | ((with_reducible refine' Wl.out ?_; apply k_stores hS); (· exact .mk); clear hS; intro ws hS)
          | (go_at_call 13; refine (of_c _ _ hS.inw p56 r56 d56 f56 T56 R56.out).mono ?_; rintro e' w73 ⟨_, m73, rfl, ⟨T73, q73, c73, HT73, rfl, R73⟩, hk⟩; replace hS := hS.call hk; have HL73 := Lib.hid hk.le; (try replace A0 := Lib.hid (Lay.mono _ hk.le A0.out)); (try replace A2 := Lib.hid (Lay.mono _ hk.le A2.out)); (try replace R40 := Lib.hid (Lay.mono _ hk.le R40.out)); (try replace R56 := Lib.hid (Lay.mono _ hk.le R56.out)); (try replace R65 := Lib.hid (Lay.mono _ hk.le R65.out)); (try replace R73 := Lib.hid (Lay.mono _ hk.le R73.out)); (try replace R97 := Lib.hid (Lay.mono _ hk.le R97.out)); (try replace R105 := Lib.hid (Lay.mono _ hk.le R105.out)); (try replace H138 := Lib.hid (Lay.mono _ hk.le H138.out)); clear hk; rw [HX.out]; have HQ : Hid (T73 = T65) := (by show _ = _; rw [HT73.out HD56.out, HM56.out, HT65.out, HT40.out]; rfl))
          | (go_at_call 19; refine (msame_c _ _ hS.inw _ _ _ _ T73 T65 R73.out R65.out HQ.out).mono ?_; rintro e' wq ⟨_, mq, rfl, rfl, hk⟩; replace hS := hS.grow (grownBy_of_below hk.below); clear hk))
        go_meet
        case rel => exact ⟨m73, HL73, hS.forget (x := .box b18 _) (by (repeat constructor))⟩
      · have hf2 : (E56 == 0) = false := by simp [hf]
        clear hf HLw
        go_wp2_with (first
    | ((with_reducible refine' Wl.out ?_; apply k_no); (· rfl))
    | ((with_reducible refine' Wl.out ?_; apply k_box (ty := 32) (y := (.tmp 0)) hS); (· exact .mk); clear hS; intro w4 b4 hS)
    | ((with_reducible refine' Wl.out ?_; apply k_alloc (ty := 24) (dst := some 10) hS); (· exact .mk); clear hS; intro w10 b10 hS)
    | ((with_reducible refine' Wl.out ?_; apply k_alloc (ty := 32) (dst := some 13) hS); (· exact .mk); clear hS; intro w13 b13 hS)
    | ((with_reducible refine' Wl.out ?_; apply k_alloc (ty := 24) (dst := some 15) hS); (· exact .mk); clear hS; intro w15 b15 hS)
    | ((with_reducible refine' Wl.out ?_; apply k_alloc (ty := 36) (dst := some 16) hS); (· exact .mk); clear hS; intro w16 b16 hS)
    | ((with_reducible refine' Wl.out ?_; apply k_alloc (ty := 24) (dst := some 18) hS); (· exact .mk); clear hS; intro w18 b18 hS)
    | ((with_reducible refine' Wl.out ?_; apply k_alloc (ty := 32) (dst := some 21) hS); (· exact .mk); clear hS; intro w21 b21 hS)
    | ((with_reducible refine' Wl.out ?_; apply k_alloc (ty := 24) (dst := some 22) hS); (· exact .mk); clear hS; intro w22 b22 hS)
    | ((with_reducible refine' Wl.out ?_; apply k_load hS); (· exact .mk))
    | ((with_reducible refine' Wl.out ?_; apply k_loads hS); (· exact .mk))
    | go_skip
    | ((with_reducible refine' Wl.out ?_; apply kg_load hS); iterate 2 (· exact .mk))
    | ((with_reducible refine' Wl.out ?_; apply kg_loads hS); iterate 2 (· exact .mk))
    | ((with_reducible refine' Wl.out ?_; refine' wg_case ?_ ?_) <;> (intro hgW; (try (have hg2 := hgW; simp [go_sem] at hg2)); (first | (exfalso; assumption) | ((with_reducible refine' Wl.out ?_; apply k_no hgW)) | ((with_reducible refine' Wl.out ?_; apply kg_load hS ⟨hgW⟩); (· exact .mk)) | ((with_reducible refine' Wl.out ?_; apply kg_loads hS ⟨hgW⟩); (· exact .mk))); clear hgW))
    | ((with_reducible refine' Wl.out ?_; apply k_stores hS); (· exact .mk); clear hS; intro ws hS)
          | (go_at_call 13; refine (of_c _ _ hS.inw p56 r56 d56 f56 T56 R56.out).mono ?_; rintro e' w73 ⟨_, m73, rfl, ⟨T73, q73, c73, HT73, rfl, R73⟩, hk⟩; replace hS := hS.call hk; have HL73 := Lib.hid hk.le; (try replace A0 := Lib.hid (Lay.mono _ hk.le A0.out)); (try replace A2 := Lib.hid (Lay.mono _ hk.le A2.out)); (try replace R40 := Lib.hid (Lay.mono _ hk.le R40.out)); (try replace R56 := Lib.hid (Lay.mono _ hk.le R56.out)); (try replace R65 := Lib.hid (Lay.mono _ hk.le R65.out)); (try replace R73 := Lib.hid (Lay.mono _ hk.le R73.out)); (try replace R97 := Lib.hid (Lay.mono _ hk.le R97.out)); (try replace R105 := Lib.hid (Lay.mono _ hk.le R105.out)); (try replace H138 := Lib.hid (Lay.mono _ hk.le H138.out)); clear hk; rw [HX.out]))
        go_meet
        case rel => exact ⟨m73, HL73, hS.forget (x := .box b18 _) (by (repeat constructor))⟩
    · have hE2 : (E65 == 0) = false := by simp [hE]
      clear hE
      go_wp2_with (first
    | ((with_reducible refine' Wl.out ?_; apply k_box (ty := 32) (y := (.tmp 0)) hS); (· exact .mk); clear hS; intro w4 b4 hS)
    | ((with_reducible refine' Wl.out ?_; apply k_alloc (ty := 24) (dst := some 10) hS); (· exact .mk); clear hS; intro w10 b10 hS)
    | ((with_reducible refine' Wl.out ?_; apply k_alloc (ty := 32) (dst := some 13) hS); (· exact .mk); clear hS; intro w13 b13 hS)
    | ((with_reducible refine' Wl.out ?_; apply k_alloc (ty := 24) (dst := some 15) hS); (· exact .mk); clear hS; intro w15 b15 hS)
    | ((with_reducible refine' Wl.out ?_; apply k_alloc (ty := 36) (dst := some 16) hS); (· exact .mk); clear hS; intro w16 b16 hS)
    | ((with_reducible refine' Wl.out ?_; apply k_alloc (ty := 24) (dst := some 18) hS); (· exact .mk); clear hS; intro w18 b18 hS)
    | ((with_reducible refine' Wl.out ?_; apply k_alloc (ty := 32) (dst := some 21) hS); (· exact .mk); clear hS; intro w21 b21 hS)
    | ((with_reducible refine' Wl.out ?_; apply k_alloc (ty := 24) (dst := some 22) hS); (· exact .mk); clear hS; intro w22 b22 hS)
    | ((with_reducible refine' Wl.out ?_; apply k_load hS); (· exact .mk))
    | ((with_reducible refine' Wl.out ?_; apply k_loads hS); (· exact .mk))
    | go_skip
    | ((with_reducible refine' Wl.out ?_; apply kg_load hS); iterate 2 (· exact .mk))
    | ((with_reducible refine' Wl.out ?_; apply kg_loads hS); iterate 2 (· exact .mk))
    | ((with_reducible refine' Wl.out ?_; refine' wg_case ?_ ?_) <;> (intro hgW; (try (have hg2 := hgW; simp [go_sem] at hg2)); (first | (exfalso; assumption) | ((with_reducible refine' Wl.out ?_; apply k_no hgW)) | ((with_reducible refine' Wl.out ?_; apply kg_load hS ⟨hgW⟩); (· exact .mk)) | ((with_reducible refine' Wl.out ?_; apply kg_loads hS ⟨hgW⟩); (· exact .mk))); clear hgW))
    | ((with_reducible refine' Wl.out ?_; apply k_stores hS); (· exact .mk); clear hS; intro ws hS))
      go_meet
      case rel => exact ⟨m65, Mem.Le.refl _, hS⟩
  case rest =>
    clear hS
    obtain ⟨m1, HLm, hS⟩ := hcut
    replace A0 := Lib.hid (Lay.mono _ HLm.out A0.out)
    replace A2 := Lib.hid (Lay.mono _ HLm.out A2.out)
    replace R40 := Lib.hid (Lay.mono _ HLm.out R40.out)
    clear HLm R65 V65 H65 R56
    go_upto_if 110 with (first
    | ((with_reducible refine' Wl.out ?_; apply k_box (ty := 32) (y := (.tmp 0)) hS); (· exact .mk); clear hS; intro w4 b4 hS)
    | ((with_reducible refine' Wl.out ?_; apply k_alloc (ty := 24) (dst := some 10) hS); (· exact .mk); clear hS; intro w10 b10 hS)
    | ((with_reducible refine' Wl.out ?_; apply k_alloc (ty := 32) (dst := some 13) hS); (· exact .mk); clear hS; intro w13 b13 hS)
    | ((with_reducible refine' Wl.out ?_; apply k_alloc (ty := 24) (dst := some 15) hS); (· exact .mk); clear hS; intro w15 b15 hS)
    | ((with_reducible refine' Wl.out ?_; apply k_alloc (ty := 36) (dst := some 16) hS); (· exact .mk); clear hS; intro w16 b16 hS)
    | ((with_reducible refine' Wl.out ?_; apply k_alloc (ty := 24) (dst := some 18) hS); (· exact .mk); clear hS; intro w18 b18 hS)
    | ((with_reducible refine' Wl.out ?_; apply k_alloc (ty := 32) (dst := some 21) hS); (· exact .mk); clear hS; intro w21 b21 hS)
    | ((with_reducible refine' Wl.out ?_; apply k_alloc (ty := 24) (dst := some 22) hS); (· exact .mk); clear hS; intro w22 b22 hS)
    | ((with_reducible refine' Wl.out ?_; apply k_load hS); (· exact .mk))
    | ((with_reducible refine' Wl.out ?_; apply k_loads hS); (· exact .mk))
    | go_skip
    | ((with_reducible refine' Wl.out ?_; apply kg_load hS); iterate 2 (· exact .mk))
    | ((with_reducible refine' Wl.out ?_; apply kg_loads hS); iterate 2 (· exact .mk))
    | ((with_reducible refine' Wl.out ?_; refine' wg_case ?_ ?_) <;> (intro hgW; (try (have hg2 := hgW; simp [go_sem] at hg2)); (first | (exfalso; assumption) | ((with_reducible refine' Wl.out ?_; apply k_no hgW)) | ((with_reducible refine' Wl.out ?_; apply kg_load hS ⟨hgW⟩); (· exact .mk)) | ((with_reducible refine' Wl.out ?_; apply kg_loads hS ⟨hgW⟩); (· exact .mk))); clear hgW))
    | ((with_reducible refine' Wl.out ?_; apply k_stores hS); (· exact .mk); clear hS; intro ws hS)
      | (go_at_call 23; refine (del_c _ _ hS.inw q1 q2 c1 c2 s A0.out z HZ.out).mono ?_; rintro e' w97 ⟨_, m97, rfl, ⟨T97, p97, d97, r97, f97, HT97, rfl, R97⟩, hk⟩; replace hS := hS.call hk; (try replace A0 := Lib.hid (Lay.mono _ hk.le A0.out)); (try replace A2 := Lib.hid (Lay.mono _ hk.le A2.out)); (try replace R40 := Lib.hid (Lay.mono _ hk.le R40.out)); (try replace R56 := Lib.hid (Lay.mono _ hk.le R56.out)); (try replace R65 := Lib.hid (Lay.mono _ hk.le R65.out)); (try replace R73 := Lib.hid (Lay.mono _ hk.le R73.out)); (try replace R97 := Lib.hid (Lay.mono _ hk.le R97.out)); (try replace R105 := Lib.hid (Lay.mono _ hk.le R105.out)); (try replace H138 := Lib.hid (Lay.mono _ hk.le H138.out)); clear hk; rw [hFE.out])
      | (go_at_call 9; refine (do_a _ _ hS.inw (ShAt.mono hS.le HG.out) q40 c40 T40 R40.out 3 z 0 0 [] none 0 (Lay.nil_rd _ _) (by decide) HZ.out).mono ?_; rintro e' w105 ⟨_, m105, rfl, ⟨T105, P105, E105, q105, c105, qv105, cv105, qh105, ch105, HT105, HP105, HE105, rfl, R105, V105, H105⟩, hk⟩; replace hS := hS.call hk; (try replace A0 := Lib.hid (Lay.mono _ hk.le A0.out)); (try replace A2 := Lib.hid (Lay.mono _ hk.le A2.out)); (try replace R40 := Lib.hid (Lay.mono _ hk.le R40.out)); (try replace R56 := Lib.hid (Lay.mono _ hk.le R56.out)); (try replace R65 := Lib.hid (Lay.mono _ hk.le R65.out)); (try replace R73 := Lib.hid (Lay.mono _ hk.le R73.out)); (try replace R97 := Lib.hid (Lay.mono _ hk.le R97.out)); (try replace R105 := Lib.hid (Lay.mono _ hk.le R105.out)); (try replace H138 := Lib.hid (Lay.mono _ hk.le H138.out)); clear hk; skip))
    (try go_frame)
    go_cut [] from 94 to 133 (fun wc => ∃ m', Hid (m105.Le m') ∧ St [] w (World.mem w) wc [.box b21 [.int .i64 T97.dim, .slice p97 T97.ids.length d97, .slice r97 T97.vecs.length f97], .box b16 [.int .i64 P105.e, .slice qv105 P105.v.length cv105, .slice qh105 P105.hits.length ch105, .int .i64 P105.n], .box b15 [.int .i64 T105.cap, .int .i64 T105.dim, .slice q105 T105.l.length c105], .box b13 [.int .i64 T56.dim, .slice p56 T56.ids.length d56, .slice r56 T56.vecs.length f56], .box b10 [.int .i64 T40.cap, .int .i64 T40.dim, .slice q40 T40.l.length c40], .box b4 [.int .i64 s.dim, .slice q1 s.ids.length c1, .slice q2 s.vecs.length c2]] m')
    case first =>
      by_cases hE : E105 = 0
      · obtain rfl : E105 = 0 := hE
        have hlaw := slots_del hN.out (by have := HE105.out; rw [HT40.out] at this; exact this.symm)
        rw [hFE.out] at hlaw
        have he : FE = P105.e := by rw [hlaw.1, HP105.out, HT40.out]; rfl
        have hne : (FE != P105.e) = false := by simp [he]
        have HLw := Lib.hid hlaw.2
        clear hlaw he
        obtain ⟨X, hX⟩ : ∃ X, chkS T97 = X := ⟨_, rfl⟩
        have HX := Lib.hid hX
        clear hX
        by_cases hf : FE = 0
        · have hl := HLw.out hf
          have HD97 : Hid (dirOK T97) := by show dirOK _; rw [HT97.out]; exact hl.1
          have HM97 : Hid (mdOf T97 = doM (mdOf s) (rmA z)) := by show _ = _; rw [HT97.out]; exact hl.2
          obtain rfl : X = 0 := HX.out.symm.trans (if_pos HD97.out)
          have hf2 : (FE == 0) = true := by simp [hf]
          clear hl hf HLw
          go_wp2_with (first
    | ((with_reducible refine' Wl.out ?_; apply k_no); (· rfl))
    | ((with_reducible refine' Wl.out ?_; apply k_box (ty := 32) (y := (.tmp 0)) hS); (· exact .mk); clear hS; intro w4 b4 hS)
    | ((with_reducible refine' Wl.out ?_; apply k_alloc (ty := 24) (dst := some 10) hS); (· exact .mk); clear hS; intro w10 b10 hS)
    | ((with_reducible refine' Wl.out ?_; apply k_alloc (ty := 32) (dst := some 13) hS); (· exact .mk); clear hS; intro w13 b13 hS)
    | ((with_reducible refine' Wl.out ?_; apply k_alloc (ty := 24) (dst := some 15) hS); (· exact .mk); clear hS; intro w15 b15 hS)
    | ((with_reducible refine' Wl.out ?_; apply k_alloc (ty := 36) (dst := some 16) hS); (· exact .mk); clear hS; intro w16 b16 hS)
    | ((with_reducible refine' Wl.out ?_; apply k_alloc (ty := 24) (dst := some 18) hS); (· exact .mk); clear hS; intro w18 b18 hS)
    | ((with_reducible refine' Wl.out ?_; apply k_alloc (ty := 32) (dst := some 21) hS); (· exact .mk); clear hS; intro w21 b21 hS)
    | ((with_reducible refine' Wl.out ?_; apply k_alloc (ty := 24) (dst := some 22) hS); (· exact .mk); clear hS; intro w22 b22 hS)
    | ((with_reducible refine' Wl.out ?_; apply k_load hS); (· exact .mk))
    | ((with_reducible refine' Wl.out ?_; apply k_loads hS); (· exact .mk))
    | go_skip
    | ((with_reducible refine' Wl.out ?_; apply kg_load hS); iterate 2 (· exact .mk))
    | ((with_reducible refine' Wl.out ?_; apply kg_loads hS); iterate 2 (· exact .mk))
    | ((with_reducible refine' Wl.out ?_; refine' wg_case ?_ ?_) <;> (intro hgW; (try (have hg2 := hgW; simp [go_sem] at hg2)); (first | (exfalso; assumption) | ((with_reducible refine' Wl.out ?_; apply k_no hgW)) | ((with_reducible refine' Wl.out ?_; apply kg_load hS ⟨hgW⟩); (· exact .mk)) | ((with_reducible refine' Wl.out ?_; apply kg_loads hS ⟨hgW⟩); (· exact .mk))); clear hgW))
    | ((with_reducible refine' Wl.out ?_; apply k_stores hS); (· exact .mk); clear hS; intro ws hS)
            | (go_at_call 13; refine (of_c _ _ hS.inw p97 r97 d97 f97 T97 R97.out).mono ?_; rintro e' w113 ⟨_, m113, rfl, ⟨T113, q113, c113, HT113, rfl, R113⟩, hk⟩; replace hS := hS.call hk; have HL113 := Lib.hid hk.le; (try replace A0 := Lib.hid (Lay.mono _ hk.le A0.out)); (try replace A2 := Lib.hid (Lay.mono _ hk.le A2.out)); (try replace R40 := Lib.hid (Lay.mono _ hk.le R40.out)); (try replace R56 := Lib.hid (Lay.mono _ hk.le R56.out)); (try replace R65 := Lib.hid (Lay.mono _ hk.le R65.out)); (try replace R73 := Lib.hid (Lay.mono _ hk.le R73.out)); (try replace R97 := Lib.hid (Lay.mono _ hk.le R97.out)); (try replace R105 := Lib.hid (Lay.mono _ hk.le R105.out)); (try replace H138 := Lib.hid (Lay.mono _ hk.le H138.out)); clear hk; rw [HX.out]; have HQ : Hid (T113 = T105) := (by show _ = _; rw [HT113.out HD97.out, HM97.out, HT105.out, HT40.out]; rfl))
            | (go_at_call 19; refine (msame_c _ _ hS.inw _ _ _ _ T113 T105 R113.out R105.out HQ.out).mono ?_; rintro e' wq ⟨_, mq, rfl, rfl, hk⟩; replace hS := hS.grow (grownBy_of_below hk.below); clear hk))
          go_meet
          case rel => exact ⟨m113, HL113, hS.forget (x := .box b22 _) (by (repeat constructor))⟩
        · have hf2 : (FE == 0) = false := by simp [hf]
          clear hf HLw
          go_wp2_with (first
    | ((with_reducible refine' Wl.out ?_; apply k_no); (· rfl))
    | ((with_reducible refine' Wl.out ?_; apply k_box (ty := 32) (y := (.tmp 0)) hS); (· exact .mk); clear hS; intro w4 b4 hS)
    | ((with_reducible refine' Wl.out ?_; apply k_alloc (ty := 24) (dst := some 10) hS); (· exact .mk); clear hS; intro w10 b10 hS)
    | ((with_reducible refine' Wl.out ?_; apply k_alloc (ty := 32) (dst := some 13) hS); (· exact .mk); clear hS; intro w13 b13 hS)
    | ((with_reducible refine' Wl.out ?_; apply k_alloc (ty := 24) (dst := some 15) hS); (· exact .mk); clear hS; intro w15 b15 hS)
    | ((with_reducible refine' Wl.out ?_; apply k_alloc (ty := 36) (dst := some 16) hS); (· exact .mk); clear hS; intro w16 b16 hS)
    | ((with_reducible refine' Wl.out ?_; apply k_alloc (ty := 24) (dst := some 18) hS); (· exact .mk); clear hS; intro w18 b18 hS)
    | ((with_reducible refine' Wl.out ?_; apply k_alloc (ty := 32) (dst := some 21) hS); (· exact .mk); clear hS; intro w21 b21 hS)
    | ((with_reducible refine' Wl.out ?_; apply k_alloc (ty := 24) (dst := some 22) hS); (· exact .mk); clear hS; intro w22 b22 hS)
    | ((with_reducible refine' Wl.out ?_; apply k_load hS); (· exact .mk))
    | ((with_reducible refine' Wl.out ?_; apply k_loads hS); (· exact .mk))
    | go_skip
    | ((with_reducible refine' Wl.out ?_; apply kg_load hS); iterate 2 (· exact .mk))
    | ((with_reducible refine' Wl.out ?_; apply kg_loads hS); iterate 2 (· exact .mk))
    | ((with_reducible refine' Wl.out ?_; refine' wg_case ?_ ?_) <;> (intro hgW; (try (have hg2 := hgW; simp [go_sem] at hg2)); (first | (exfalso; assumption) | ((with_reducible refine' Wl.out ?_; apply k_no hgW)) | ((with_reducible refine' Wl.out ?_; apply kg_load hS ⟨hgW⟩); (· exact .mk)) | ((with_reducible refine' Wl.out ?_; apply kg_loads hS ⟨hgW⟩); (· exact .mk))); clear hgW))
    | ((with_reducible refine' Wl.out ?_; apply k_stores hS); (· exact .mk); clear hS; intro ws hS)
            | (go_at_call 13; refine (of_c _ _ hS.inw p97 r97 d97 f97 T97 R97.out).mono ?_; rintro e' w113 ⟨_, m113, rfl, ⟨T113, q113, c113, HT113, rfl, R113⟩, hk⟩; replace hS := hS.call hk; have HL113 := Lib.hid hk.le; (try replace A0 := Lib.hid (Lay.mono _ hk.le A0.out)); (try replace A2 := Lib.hid (Lay.mono _ hk.le A2.out)); (try replace R40 := Lib.hid (Lay.mono _ hk.le R40.out)); (try replace R56 := Lib.hid (Lay.mono _ hk.le R56.out)); (try replace R65 := Lib.hid (Lay.mono _ hk.le R65.out)); (try replace R73 := Lib.hid (Lay.mono _ hk.le R73.out)); (try replace R97 := Lib.hid (Lay.mono _ hk.le R97.out)); (try replace R105 := Lib.hid (Lay.mono _ hk.le R105.out)); (try replace H138 := Lib.hid (Lay.mono _ hk.le H138.out)); clear hk; rw [HX.out]))
          go_meet
          case rel => exact ⟨m113, HL113, hS.forget (x := .box b22 _) (by (repeat constructor))⟩
      · have hE2 : (E105 == 0) = false := by simp [hE]
        clear hE
        go_wp2_with (first
    | ((with_reducible refine' Wl.out ?_; apply k_box (ty := 32) (y := (.tmp 0)) hS); (· exact .mk); clear hS; intro w4 b4 hS)
    | ((with_reducible refine' Wl.out ?_; apply k_alloc (ty := 24) (dst := some 10) hS); (· exact .mk); clear hS; intro w10 b10 hS)
    | ((with_reducible refine' Wl.out ?_; apply k_alloc (ty := 32) (dst := some 13) hS); (· exact .mk); clear hS; intro w13 b13 hS)
    | ((with_reducible refine' Wl.out ?_; apply k_alloc (ty := 24) (dst := some 15) hS); (· exact .mk); clear hS; intro w15 b15 hS)
    | ((with_reducible refine' Wl.out ?_; apply k_alloc (ty := 36) (dst := some 16) hS); (· exact .mk); clear hS; intro w16 b16 hS)
    | ((with_reducible refine' Wl.out ?_; apply k_alloc (ty := 24) (dst := some 18) hS); (· exact .mk); clear hS; intro w18 b18 hS)
    | ((with_reducible refine' Wl.out ?_; apply k_alloc (ty := 32) (dst := some 21) hS); (· exact .mk); clear hS; intro w21 b21 hS)
    | ((with_reducible refine' Wl.out ?_; apply k_alloc (ty := 24) (dst := some 22) hS); (· exact .mk); clear hS; intro w22 b22 hS)
    | ((with_reducible refine' Wl.out ?_; apply k_load hS); (· exact .mk))
    | ((with_reducible refine' Wl.out ?_; apply k_loads hS); (· exact .mk))
    | go_skip
    | ((with_reducible refine' Wl.out ?_; apply kg_load hS); iterate 2 (· exact .mk))
    | ((with_reducible refine' Wl.out ?_; apply kg_loads hS); iterate 2 (· exact .mk))
    | ((with_reducible refine' Wl.out ?_; refine' wg_case ?_ ?_) <;> (intro hgW; (try (have hg2 := hgW; simp [go_sem] at hg2)); (first | (exfalso; assumption) | ((with_reducible refine' Wl.out ?_; apply k_no hgW)) | ((with_reducible refine' Wl.out ?_; apply kg_load hS ⟨hgW⟩); (· exact .mk)) | ((with_reducible refine' Wl.out ?_; apply kg_loads hS ⟨hgW⟩); (· exact .mk))); clear hgW))
    | ((with_reducible refine' Wl.out ?_; apply k_stores hS); (· exact .mk); clear hS; intro ws hS))
        go_meet
        case rel => exact ⟨m105, Mem.Le.refl _, hS⟩
    case rest =>
      clear hS
      obtain ⟨m2, HLm, hS⟩ := hcut
      replace A0 := Lib.hid (Lay.mono _ HLm.out A0.out)
      replace A2 := Lib.hid (Lay.mono _ HLm.out A2.out)
      replace R40 := Lib.hid (Lay.mono _ HLm.out R40.out)
      clear HLm R105 V105 H105 R97
      go_wp2_with (first
    | ((with_reducible refine' Wl.out ?_; apply k_no); (· rfl))
    | ((with_reducible refine' Wl.out ?_; apply k_box (ty := 32) (y := (.tmp 0)) hS); (· exact .mk); clear hS; intro w4 b4 hS)
    | ((with_reducible refine' Wl.out ?_; apply k_alloc (ty := 24) (dst := some 10) hS); (· exact .mk); clear hS; intro w10 b10 hS)
    | ((with_reducible refine' Wl.out ?_; apply k_alloc (ty := 32) (dst := some 13) hS); (· exact .mk); clear hS; intro w13 b13 hS)
    | ((with_reducible refine' Wl.out ?_; apply k_alloc (ty := 24) (dst := some 15) hS); (· exact .mk); clear hS; intro w15 b15 hS)
    | ((with_reducible refine' Wl.out ?_; apply k_alloc (ty := 36) (dst := some 16) hS); (· exact .mk); clear hS; intro w16 b16 hS)
    | ((with_reducible refine' Wl.out ?_; apply k_alloc (ty := 24) (dst := some 18) hS); (· exact .mk); clear hS; intro w18 b18 hS)
    | ((with_reducible refine' Wl.out ?_; apply k_alloc (ty := 32) (dst := some 21) hS); (· exact .mk); clear hS; intro w21 b21 hS)
    | ((with_reducible refine' Wl.out ?_; apply k_alloc (ty := 24) (dst := some 22) hS); (· exact .mk); clear hS; intro w22 b22 hS)
    | ((with_reducible refine' Wl.out ?_; apply k_load hS); (· exact .mk))
    | ((with_reducible refine' Wl.out ?_; apply k_loads hS); (· exact .mk))
    | go_skip
    | ((with_reducible refine' Wl.out ?_; apply kg_load hS); iterate 2 (· exact .mk))
    | ((with_reducible refine' Wl.out ?_; apply kg_loads hS); iterate 2 (· exact .mk))
    | ((with_reducible refine' Wl.out ?_; refine' wg_case ?_ ?_) <;> (intro hgW; (try (have hg2 := hgW; simp [go_sem] at hg2)); (first | (exfalso; assumption) | ((with_reducible refine' Wl.out ?_; apply k_no hgW)) | ((with_reducible refine' Wl.out ?_; apply kg_load hS ⟨hgW⟩); (· exact .mk)) | ((with_reducible refine' Wl.out ?_; apply kg_loads hS ⟨hgW⟩); (· exact .mk))); clear hgW))
    | ((with_reducible refine' Wl.out ?_; apply k_stores hS); (· exact .mk); clear hS; intro ws hS)
        | (go_at_call 24; refine (brute_c _ _ hS.inw q1 q2 c1 c2 s A0.out _ v A2.out k).mono ?_; rintro e' w138 ⟨_, m138, rfl, ⟨p138, c138, R138, E138, HR138, HE138, rfl, H138⟩, hk⟩; replace hS := hS.call hk; (try replace A0 := Lib.hid (Lay.mono _ hk.le A0.out)); (try replace A2 := Lib.hid (Lay.mono _ hk.le A2.out)); (try replace R40 := Lib.hid (Lay.mono _ hk.le R40.out)); (try replace R56 := Lib.hid (Lay.mono _ hk.le R56.out)); (try replace R65 := Lib.hid (Lay.mono _ hk.le R65.out)); (try replace R73 := Lib.hid (Lay.mono _ hk.le R73.out)); (try replace R97 := Lib.hid (Lay.mono _ hk.le R97.out)); (try replace R105 := Lib.hid (Lay.mono _ hk.le R105.out)); (try replace H138 := Lib.hid (Lay.mono _ hk.le H138.out)); clear hk)
        | (go_at_call 9; refine (do_a _ _ hS.inw (ShAt.mono hS.le HG.out) q40 c40 T40 R40.out 5 0 k 0 v qv cv A2.out (by decide) HI0.out).mono ?_; rintro e' w146 ⟨_, m146, rfl, ⟨T146, P146, E146, q146, c146, qv146, cv146, qh146, ch146, HT146, HP146, HE146, rfl, R146, V146, H146⟩, hk⟩; replace hS := hS.call hk; (try replace A0 := Lib.hid (Lay.mono _ hk.le A0.out)); (try replace A2 := Lib.hid (Lay.mono _ hk.le A2.out)); (try replace R40 := Lib.hid (Lay.mono _ hk.le R40.out)); (try replace R56 := Lib.hid (Lay.mono _ hk.le R56.out)); (try replace R65 := Lib.hid (Lay.mono _ hk.le R65.out)); (try replace R73 := Lib.hid (Lay.mono _ hk.le R73.out)); (try replace R97 := Lib.hid (Lay.mono _ hk.le R97.out)); (try replace R105 := Lib.hid (Lay.mono _ hk.le R105.out)); (try replace H138 := Lib.hid (Lay.mono _ hk.le H138.out)); clear hk; obtain rfl : E146 = E138 := (HE146.out.trans (by rw [HT40.out, HE138.out]; exact HSq.out.1.symm)); have HQ : Hid (decide (R138 = P146.hits) = true) := (decide_eq_true (by rw [HR138.out, HP146.out, HT40.out]; exact HSq.out.2)); have hee : (E146 == E146) = true := (by simp))
        | (go_at_call 25; refine (same16_c _ _ hS.inw _ _ R138 P146.hits H138.out H146.out).mono ?_; rintro e' wq ⟨_, mq, rfl, rfl, hk⟩; replace hS := hS.grow (grownBy_of_below hk.below); clear hk; rw [HQ.out]))
      all_goals (first | (go_ret; exact ⟨rfl, hS.below⟩) | (go_ret; refine ⟨?_, hS.below⟩; simp; done))
end Go.Proofs.YtnbhhdncbajkgaaGreatDoor
