/- The walk of ScanNearest. -/
import Derived.Test.YtlkdjmpkapeppaaG3
import Derived.Test.YtlkdjmpkapeppaaG4
namespace Go.Proofs.Ytlkdjmpkapeppaa
set_option linter.unusedVariables false
set_option linter.unusedSimpArgs false
open Go.RowKit Go.Shelf
theorem mapTB : MapTB Try.prog 34 2 4 .i64 := ⟨Try.underlying2, Try.underlying34, Try.underlying4, by kernel_rfl⟩
set_option maxRecDepth 100000 in
set_option maxHeartbeats 8000000 in
theorem walkScanNearest (w : World) (vs : Value) (s : Sl) (hs : ∃ q1 c1 q2 c2, vs = .agg #[.int .i64 s.dim, .slice q1 s.ids.length c1, .slice q2 s.vecs.length c2] ∧ slL.rd (World.mem w) [.int .i64 s.dim, .slice q1 s.ids.length c1, .slice q2 s.vecs.length c2] s) (vq : Value) (q : List Int) (hq : vecL.rd (World.mem w) [vq] q) (K : Int) (hk : (Lit.int .i64 K).wf = true) :
    Calls Try.prog 8 #[vs, vq, .int .i64 K] w fun e w' => e = .returned (.bool true) ∧ Below w.heap.size w w' := by
  obtain ⟨q1, c1, q2, c2, rfl, hs⟩ := hs
  have hS := St.start (World.mem_in w)
  have A0 := Lib.hid hs
  have A1 := Lib.hid hq
  obtain ⟨p, c, rfl, _⟩ := Lay.list_open hq
  obtain ⟨_, _, _, _, e, hd, h1, h2⟩ := slL_open hs
  cases e
  obtain ⟨_, _, e1, _, m1, _, r1⟩ := Lay.list_open h1
  obtain ⟨_, _, e2, _, _, _, r2⟩ := Lay.list_open h2
  cases e1
  cases e2
  have HI := Lib.hid r1
  have HV := Lib.hid r2
  clear hs hq h1 h2 r1 r2 hk
  by_cases hmay : ¬ mayP s q K
  · have hE : Hid (mayE s q K = 1) := if_neg hmay
    have hR : Hid (bruteR s q K = []) := if_neg hmay
    clear hmay HI HV
    go_enter Try.func8, Try.ntmps8
    go_wp2_with (first
    | ((with_reducible refine' Wl.out ?_; apply k_box (ty := 48) (y := (.tmp 0)) hS); (· exact .mk); clear hS; intro w3 b3 hS)
    | ((with_reducible refine' Wl.out ?_; apply k_alloc (ty := 30) (dst := some 12) hS); (· exact .mk); clear hS; intro w12 b12 hS)
    | ((with_reducible refine' Wl.out ?_; apply k_alloc (ty := 30) (dst := some 18) hS); (· exact .mk); clear hS; intro w18 b18 hS)
    | ((with_reducible refine' Wl.out ?_; apply k_alloc (ty := 30) (dst := some 21) hS); (· exact .mk); clear hS; intro w21 b21 hS)
    | ((with_reducible refine' Wl.out ?_; apply k_load hS); (· exact .mk))
    | ((with_reducible refine' Wl.out ?_; apply k_loads hS); (· exact .mk))
    | go_skip
    | ((with_reducible refine' Wl.out ?_; apply kg_load hS); iterate 2 (· exact .mk))
    | ((with_reducible refine' Wl.out ?_; apply kg_loads hS); iterate 2 (· exact .mk))
    | ((with_reducible refine' Wl.out ?_; refine' wg_case ?_ ?_) <;> (intro hgW; (try (have hg2 := hgW; simp [go_sem] at hg2)); (first | (exfalso; assumption) | ((with_reducible refine' Wl.out ?_; apply k_no hgW)) | ((with_reducible refine' Wl.out ?_; apply kg_load hS ⟨hgW⟩); (· exact .mk)) | ((with_reducible refine' Wl.out ?_; apply kg_loads hS ⟨hgW⟩); (· exact .mk))); clear hgW))
    | ((with_reducible refine' Wl.out ?_; apply k_stores hS); (· exact .mk); clear hS; intro ws hS)
      | (go_at_call 24; refine (live17_c _ _ hS.inw).mono ?_; rintro e' w22 ⟨_, m22, rfl, rfl, hk⟩; replace hS := hS.grow (grownBy_of_below hk.below); clear hk)
      | (go_at_call 25; refine (few17_nil _ _ hS.inw _ _ _ _ s A0.out _ q A1.out).mono ?_; rintro e' w29 ⟨_, m29, rfl, ⟨B, rfl⟩, hk⟩; replace hS := hS.grow (grownBy_of_below hk.below); clear hk; cases B)
      | (go_at_call 26; refine (brute_c _ _ hS.inw _ _ _ _ s A0.out _ q A1.out _).mono ?_; rintro e' w36 ⟨_, m36, rfl, ⟨p36, c36, Y36, E36, HY36, HE36, rfl, R36⟩, hk⟩; replace hS := hS.call hk; clear hk; obtain rfl := HE36.out.trans hE.out; obtain rfl := HY36.out.trans hR.out))
    all_goals (first | (go_ret; exact ⟨rfl, hS.below⟩) | (go_ret; refine ⟨?_, hS.below⟩; simp; done))
  replace hmay := Classical.not_not.1 hmay
  have hE : Hid (mayE s q K = 0) := if_pos hmay
  have hR : Hid (bruteR s q K = near K.toNat (hitsOf s q s.ids.length)) := if_pos hmay
  have HM := Lib.hid hmay
  have l256 := hmay.1.2.1.2
  clear hmay
  go_enter Try.func8, Try.ntmps8
  go_wp2_with (first
    | ((with_reducible refine' Wl.out ?_; apply k_box (ty := 48) (y := (.tmp 0)) hS); (· exact .mk); clear hS; intro w3 b3 hS)
    | ((with_reducible refine' Wl.out ?_; apply k_alloc (ty := 30) (dst := some 12) hS); (· exact .mk); clear hS; intro w12 b12 hS)
    | ((with_reducible refine' Wl.out ?_; apply k_alloc (ty := 30) (dst := some 18) hS); (· exact .mk); clear hS; intro w18 b18 hS)
    | ((with_reducible refine' Wl.out ?_; apply k_alloc (ty := 30) (dst := some 21) hS); (· exact .mk); clear hS; intro w21 b21 hS)
    | ((with_reducible refine' Wl.out ?_; apply k_load hS); (· exact .mk))
    | ((with_reducible refine' Wl.out ?_; apply k_loads hS); (· exact .mk))
    | go_skip
    | ((with_reducible refine' Wl.out ?_; apply kg_load hS); iterate 2 (· exact .mk))
    | ((with_reducible refine' Wl.out ?_; apply kg_loads hS); iterate 2 (· exact .mk))
    | ((with_reducible refine' Wl.out ?_; refine' wg_case ?_ ?_) <;> (intro hgW; (try (have hg2 := hgW; simp [go_sem] at hg2)); (first | (exfalso; assumption) | ((with_reducible refine' Wl.out ?_; apply k_no hgW)) | ((with_reducible refine' Wl.out ?_; apply kg_load hS ⟨hgW⟩); (· exact .mk)) | ((with_reducible refine' Wl.out ?_; apply kg_loads hS ⟨hgW⟩); (· exact .mk))); clear hgW))
    | ((with_reducible refine' Wl.out ?_; apply k_stores hS); (· exact .mk); clear hS; intro ws hS)
    | (go_at_call 24; refine (live17_c _ _ hS.inw).mono ?_; rintro e' w22 ⟨_, m22, rfl, rfl, hk⟩; replace hS := hS.grow (grownBy_of_below hk.below); clear hk)
    | (go_at_call 25; refine (few17_nil _ _ hS.inw _ _ _ _ s A0.out _ q A1.out).mono ?_; rintro e' w29 ⟨_, m29, rfl, ⟨B, rfl⟩, hk⟩; replace hS := hS.grow (grownBy_of_below hk.below); clear hk; cases B)
    | (go_at_call 26; refine (brute_c _ _ hS.inw _ _ _ _ s A0.out _ q A1.out _).mono ?_; rintro e' w36 ⟨_, m36, rfl, ⟨p36, c36, Y36, E36, HY36, HE36, rfl, R36⟩, hk⟩; replace hS := hS.call hk; have HLE := Lib.hid hk.le; clear hk; obtain rfl := HE36.out.trans hE.out; have HN := Lib.hid (near_slots HM.out (HY36.out.trans hR.out)))
    | ((with_reducible refine' Wl.out ?_; apply wl_makeMapB hS mapTB); clear hS; intro w47 b47 hS))
  · (first | (go_ret; exact ⟨rfl, hS.below⟩) | (go_ret; refine ⟨?_, hS.below⟩; simp; done))
  obtain ⟨q', c', e36, _, u2, _, urow⟩ := Lay.list_open R36.out
  cases e36
  have HU := Lib.hid urow
  have hl36 : Y36.length ≤ 9223372036854775807 := by simp only [maxLen] at u2; omega
  clear urow u2 HY36 HE36
  rw [show (fun _ => none : Int → Option Bool) = inF Y36 0 from (inF_zero _).symm] at hS
  go_loopw [50] (fun i wr => ∃ i' : Nat, i' ≤ Y36.length ∧ i = .int .i64 i' ∧ St [] w (World.mem w) wr [.obj b47 (MapB Try.prog 2 4 .i64 i' (inF Y36 i')), .box b3 [.int .i64 s.dim, .slice q1 s.ids.length c1, .slice q2 s.vecs.length c2]] m36) (fun i _ => Y36.length - (intOf i).toNat)
  case atStart => exact ⟨0, Nat.zero_le _, rfl, hS⟩
  case round =>
    clear hS
    obtain ⟨i, hi, rfl, hS⟩ := hrel
    by_cases hlt : i < Y36.length
    · obtain ⟨bs, os, cs, rfl, hcs, hcell⟩ := HU.out.get i hlt
      obtain ⟨rfl, _, i2⟩ := hitL_open hcs
      have ij := Lib.hid i2
      have hfun := Lib.hid (inF_succ hlt rfl)
      have hi1 : (i : Int) < Y36.length := by omega
      have hsz : i < maxLen := by simp only [maxLen]; omega
      have hcx : ∀ k v, [Value.int .i64 Y36[i].dist, .int .i64 Y36[i].id][k]? = some v → m36 ⟨bs, os + i * 2 + k, none⟩ = some v := hcell
      clear hcs hcell
      rcases Nat.eq_zero_or_pos i with h0 | h0
      · subst h0
        clear HN
        generalize Y36[0] = x at *
        go_wp2_with (first
    | ((with_reducible refine' Wl.out ?_; apply k_box (ty := 48) (y := (.tmp 0)) hS); (· exact .mk); clear hS; intro w3 b3 hS)
    | ((with_reducible refine' Wl.out ?_; apply k_alloc (ty := 30) (dst := some 12) hS); (· exact .mk); clear hS; intro w12 b12 hS)
    | ((with_reducible refine' Wl.out ?_; apply k_alloc (ty := 30) (dst := some 18) hS); (· exact .mk); clear hS; intro w18 b18 hS)
    | ((with_reducible refine' Wl.out ?_; apply k_alloc (ty := 30) (dst := some 21) hS); (· exact .mk); clear hS; intro w21 b21 hS)
    | ((with_reducible refine' Wl.out ?_; apply k_load hS); (· exact .mk))
    | ((with_reducible refine' Wl.out ?_; apply k_loads hS); (· exact .mk))
    | go_skip
    | ((with_reducible refine' Wl.out ?_; apply kg_load hS); iterate 2 (· exact .mk))
    | ((with_reducible refine' Wl.out ?_; apply kg_loads hS); iterate 2 (· exact .mk))
    | ((with_reducible refine' Wl.out ?_; refine' wg_case ?_ ?_) <;> (intro hgW; (try (have hg2 := hgW; simp [go_sem] at hg2)); (first | (exfalso; assumption) | ((with_reducible refine' Wl.out ?_; apply k_no hgW)) | ((with_reducible refine' Wl.out ?_; apply kg_load hS ⟨hgW⟩); (· exact .mk)) | ((with_reducible refine' Wl.out ?_; apply kg_loads hS ⟨hgW⟩); (· exact .mk))); clear hgW))
    | ((with_reducible refine' Wl.out ?_; apply k_stores hS); (· exact .mk); clear hS; intro ws hS)
          | ((with_reducible refine' Wl.out ?_; apply wl_mapUpdateB (c := true) hS mapTB); (· exact rfl); (· exact rfl); (· exact ij.out); (· exact rfl); (· exact hsz); (· exact hfun.out); (· repeat constructor); clear hS; intro w59 hS))
        replace hS := hS.drew
        refine startL (S := Sx _ [(b12, _)]) (by kernel_rfl) (hS.sx0.cons hS (by (repeat constructor))) (fun _ _ _ _ => trivial) (fun hHeld => ?_)
        focus (refine takeN 0 (v := ?_) rfl (by kernel_rfl) ?_ ?_; rotate_left; focus (intro w hSw; clear hSw; go_simp; try with_reducible rfl))
        try simp only [Act.put, nz1, nz2, nz3]
        focus (refine takeN 1 (v := ?_) rfl (by kernel_rfl) ?_ ?_; rotate_left; focus (intro w hSw; clear hSw; go_simp; try with_reducible rfl))
        try simp only [Act.put, nz1, nz2, nz3]
        focus (refine takeN 2 (v := ?_) rfl (by kernel_rfl) ?_ ?_; rotate_left; focus (intro w hSw; clear hSw; go_simp; try with_reducible rfl))
        try simp only [Act.put, nz1, nz2, nz3]
        first | (focus (refine takeG 3 (v := ?_) rfl (by kernel_rfl) ?_ ?_ ?_; rotate_left; (focus (first | rfl | (go_simp <;> fail))); (focus (intro w hSw; clear hSw; go_simp; try with_reducible rfl)))) | (refine skipG 3 rfl (by kernel_rfl) ?_ ?_; (focus (first | rfl | (go_simp <;> fail))))
        try simp only [Act.put, nz1, nz2, nz3]
        first | (focus (refine takeG 4 (v := ?_) rfl (by kernel_rfl) ?_ ?_ ?_; rotate_left; (focus (first | rfl | (go_simp <;> fail))); (focus (intro w hSw; clear hSw; go_simp; try with_reducible rfl)))) | (refine skipG 4 rfl (by kernel_rfl) ?_ ?_; (focus (first | rfl | (go_simp <;> fail))))
        try simp only [Act.put, nz1, nz2, nz3]
        first | (focus (refine takeG 5 (v := ?_) rfl (by kernel_rfl) ?_ ?_ ?_; rotate_left; (focus (first | rfl | (go_simp <;> fail))); (focus (intro w hSw; clear hSw; go_simp; try with_reducible rfl)))) | (refine skipG 5 rfl (by kernel_rfl) ?_ ?_; (focus (first | rfl | (go_simp <;> fail))))
        try simp only [Act.put, nz1, nz2, nz3]
        first | (focus (refine takeG 6 (v := ?_) rfl (by kernel_rfl) ?_ ?_ ?_; rotate_left; (focus (first | rfl | (go_simp <;> fail))); (focus (intro w hSw; clear hSw; go_simp; try with_reducible rfl)))) | (refine skipG 6 rfl (by kernel_rfl) ?_ ?_; (focus (first | rfl | (go_simp <;> fail))))
        try simp only [Act.put, nz1, nz2, nz3]
        first | (focus (refine' takeG 7 rfl (by kernel_rfl) ?_ ?_ ?_; rotate_left; (focus (first | rfl | (go_simp <;> fail))); (focus (intro w hSw; refine' yield_loads rfl rowT30 rfl ?_ w hSw; (first | (apply FindsX.box; (· (repeat constructor)); (· (repeat constructor)); done) | (refine FindsX.mem (by assumption) ?_; first | rfl | assumption | (simp; done))))))) | (refine skipG 7 rfl (by kernel_rfl) ?_ ?_; (focus (first | rfl | (go_simp <;> fail))))
        try simp only [Act.put, nz1, nz2, nz3]
        first | (focus (refine' takeG 8 rfl (by kernel_rfl) ?_ ?_ ?_; rotate_left; (focus (first | rfl | (go_simp <;> fail))); (focus (intro w hSw; refine' yield_loads rfl rowT30 rfl ?_ w hSw; (first | (apply FindsX.box; (· (repeat constructor)); (· (repeat constructor)); done) | (refine FindsX.mem (by assumption) ?_; first | rfl | assumption | (simp; done))))))) | (refine skipG 8 rfl (by kernel_rfl) ?_ ?_; (focus (first | rfl | (go_simp <;> fail))))
        try simp only [Act.put, nz1, nz2, nz3]
        refine wpAnyH_ready (rs := [9]) (by kernel_rfl) (by simp) ?_
        refine consL 9 rfl (fun K hK => ?_) AllReadyH.nil
        rw [if_neg (by exact Bool.false_ne_true)]
        refine hK.out _ _ (by first | exact (hS.sx0.cons hS (by (repeat constructor))) | exact Sx.le (by assumption) (hS.sx0.cons hS (by (repeat constructor)))) (fun hHeld => ?_)
        clear hK K
        try simp only [Act.put, nz1, nz2, nz3]
        first | (focus (refine takeG 10 (v := ?_) rfl (by kernel_rfl) ?_ ?_ ?_; rotate_left; (focus (first | rfl | (go_simp <;> fail))); (focus (intro w hSw; clear hSw; go_simp; try with_reducible rfl)))) | (refine skipG 10 rfl (by kernel_rfl) ?_ ?_; (focus (first | rfl | (go_simp <;> fail))))
        try simp only [Act.put, nz1, nz2, nz3]
        focus (refine takeN 11 (v := ?_) rfl (by kernel_rfl) ?_ ?_; rotate_left; focus (intro w hSw; clear hSw; go_simp; try with_reducible rfl))
        try simp only [Act.put, nz1, nz2, nz3]
        refine wpAnyH_done (by kernel_rfl) ?_ _
        refine NoPanic.normal ?_
        all_goals
          go_wp2_with fail
          go_roundw
          case rel => exact ⟨0 + 1, hlt, by go_num, hS.forget (x := .box b12 _) (by (repeat constructor))⟩
          case measure => simp [intOf]; omega
      · obtain ⟨p0, rfl⟩ : ∃ p, i = p + 1 := ⟨i - 1, by omega⟩
        obtain ⟨b2, o2, cs, e2, hcs, hcell⟩ := HU.out.get p0 (by omega)
        cases e2
        obtain ⟨rfl, _, _⟩ := hitL_open hcs
        have hcy : ∀ k v, [Value.int .i64 Y36[p0].dist, .int .i64 Y36[p0].id][k]? = some v → m36 ⟨bs, os + p0 * 2 + k, none⟩ = some v := hcell
        have hLx : Hid (decide ((⟨Y36[p0].dist, Y36[p0].id⟩ : Hit).lt ⟨Y36[p0 + 1].dist, Y36[p0 + 1].id⟩) = true) := decide_eq_true (by
          have := HN.out.1 p0 hlt
          simpa [List.getD, hlt, show p0 < Y36.length by omega] using this)
        have hp1 : (p0 : Int) < Y36.length := by omega
        have hw1 : IntKind.i64.wrap (p0 : Int) = p0 := wrap64 (by omega) (by omega)
        clear hcs hcell HN
        generalize Y36[p0 + 1] = x at *
        generalize Y36[p0] = y at *
        go_wp2_with (first
    | ((with_reducible refine' Wl.out ?_; apply k_box (ty := 48) (y := (.tmp 0)) hS); (· exact .mk); clear hS; intro w3 b3 hS)
    | ((with_reducible refine' Wl.out ?_; apply k_alloc (ty := 30) (dst := some 12) hS); (· exact .mk); clear hS; intro w12 b12 hS)
    | ((with_reducible refine' Wl.out ?_; apply k_alloc (ty := 30) (dst := some 18) hS); (· exact .mk); clear hS; intro w18 b18 hS)
    | ((with_reducible refine' Wl.out ?_; apply k_alloc (ty := 30) (dst := some 21) hS); (· exact .mk); clear hS; intro w21 b21 hS)
    | ((with_reducible refine' Wl.out ?_; apply k_load hS); (· exact .mk))
    | ((with_reducible refine' Wl.out ?_; apply k_loads hS); (· exact .mk))
    | go_skip
    | ((with_reducible refine' Wl.out ?_; apply kg_load hS); iterate 2 (· exact .mk))
    | ((with_reducible refine' Wl.out ?_; apply kg_loads hS); iterate 2 (· exact .mk))
    | ((with_reducible refine' Wl.out ?_; refine' wg_case ?_ ?_) <;> (intro hgW; (try (have hg2 := hgW; simp [go_sem] at hg2)); (first | (exfalso; assumption) | ((with_reducible refine' Wl.out ?_; apply k_no hgW)) | ((with_reducible refine' Wl.out ?_; apply kg_load hS ⟨hgW⟩); (· exact .mk)) | ((with_reducible refine' Wl.out ?_; apply kg_loads hS ⟨hgW⟩); (· exact .mk))); clear hgW))
    | ((with_reducible refine' Wl.out ?_; apply k_stores hS); (· exact .mk); clear hS; intro ws hS)
          | ((with_reducible refine' Wl.out ?_; apply wl_mapUpdateB (c := true) hS mapTB); (· exact rfl); (· exact rfl); (· exact ij.out); (· exact rfl); (· exact hsz); (· exact hfun.out); (· repeat constructor); clear hS; intro w59 hS))
        replace hS := hS.drew
        refine startL (S := Sx _ [(b12, _)]) (by kernel_rfl) (hS.sx0.cons hS (by (repeat constructor))) (fun _ _ _ _ => trivial) (fun hHeld => ?_)
        focus (refine takeN 0 (v := ?_) rfl (by kernel_rfl) ?_ ?_; rotate_left; focus (intro w hSw; clear hSw; go_simp; try with_reducible rfl))
        try simp only [Act.put, nz1, nz2, nz3]
        focus (refine takeN 1 (v := ?_) rfl (by kernel_rfl) ?_ ?_; rotate_left; focus (intro w hSw; clear hSw; go_simp; try with_reducible rfl))
        try simp only [Act.put, nz1, nz2, nz3]
        focus (refine takeN 2 (v := ?_) rfl (by kernel_rfl) ?_ ?_; rotate_left; focus (intro w hSw; clear hSw; go_simp; try with_reducible rfl))
        try simp only [Act.put, nz1, nz2, nz3]
        first | (focus (refine takeG 3 (v := ?_) rfl (by kernel_rfl) ?_ ?_ ?_; rotate_left; (focus (first | rfl | (go_simp <;> fail))); (focus (intro w hSw; clear hSw; go_simp; try with_reducible rfl)))) | (refine skipG 3 rfl (by kernel_rfl) ?_ ?_; (focus (first | rfl | (go_simp <;> fail))))
        try simp only [Act.put, nz1, nz2, nz3]
        first | (focus (refine takeG 4 (v := ?_) rfl (by kernel_rfl) ?_ ?_ ?_; rotate_left; (focus (first | rfl | (go_simp <;> fail))); (focus (intro w hSw; clear hSw; go_simp; try with_reducible rfl)))) | (refine skipG 4 rfl (by kernel_rfl) ?_ ?_; (focus (first | rfl | (go_simp <;> fail))))
        try simp only [Act.put, nz1, nz2, nz3]
        first | (focus (refine takeG 5 (v := ?_) rfl (by kernel_rfl) ?_ ?_ ?_; rotate_left; (focus (first | rfl | (go_simp <;> fail))); (focus (intro w hSw; clear hSw; go_simp; try with_reducible rfl)))) | (refine skipG 5 rfl (by kernel_rfl) ?_ ?_; (focus (first | rfl | (go_simp <;> fail))))
        try simp only [Act.put, nz1, nz2, nz3]
        first | (focus (refine takeG 6 (v := ?_) rfl (by kernel_rfl) ?_ ?_ ?_; rotate_left; (focus (first | rfl | (go_simp <;> fail))); (focus (intro w hSw; clear hSw; go_simp; try with_reducible rfl)))) | (refine skipG 6 rfl (by kernel_rfl) ?_ ?_; (focus (first | rfl | (go_simp <;> fail))))
        try simp only [Act.put, nz1, nz2, nz3]
        first | (focus (refine' takeG 7 rfl (by kernel_rfl) ?_ ?_ ?_; rotate_left; (focus (first | rfl | (go_simp <;> fail))); (focus (intro w hSw; refine' yield_loads rfl rowT30 rfl ?_ w hSw; (first | (apply FindsX.box; (· (repeat constructor)); (· (repeat constructor)); done) | (refine FindsX.mem (by assumption) ?_; first | rfl | assumption | (simp; done))))))) | (refine skipG 7 rfl (by kernel_rfl) ?_ ?_; (focus (first | rfl | (go_simp <;> fail))))
        try simp only [Act.put, nz1, nz2, nz3]
        first | (focus (refine' takeG 8 rfl (by kernel_rfl) ?_ ?_ ?_; rotate_left; (focus (first | rfl | (go_simp <;> fail))); (focus (intro w hSw; refine' yield_loads rfl rowT30 rfl ?_ w hSw; (first | (apply FindsX.box; (· (repeat constructor)); (· (repeat constructor)); done) | (refine FindsX.mem (by assumption) ?_; first | rfl | assumption | (simp; done))))))) | (refine skipG 8 rfl (by kernel_rfl) ?_ ?_; (focus (first | rfl | (go_simp <;> fail))))
        try simp only [Act.put, nz1, nz2, nz3]
        refine wpAnyH_ready (rs := [9]) (by kernel_rfl) (by simp) ?_
        refine consL 9 rfl (fun K hK => ?_) AllReadyH.nil
        rw [if_pos (by rfl)]; go_simp; refine (rless_v (World.mem _) _ (World.mem_in _) _ _ _ _).mono ?_; rintro e' w67 ⟨_, m67, rfl, hv67, hk67⟩; replace hS := hS.grow (grownBy_of_below hk67.below); clear hk67; rw [hLx.out] at hv67; subst hv67; go_wp2_with fail
        refine hK.out _ _ (by first | exact (hS.sx0.cons hS (by (repeat constructor))) | exact Sx.le (by assumption) (hS.sx0.cons hS (by (repeat constructor)))) (fun hHeld => ?_)
        clear hK K
        try simp only [Act.put, nz1, nz2, nz3]
        first | (focus (refine takeG 10 (v := ?_) rfl (by kernel_rfl) ?_ ?_ ?_; rotate_left; (focus (first | rfl | (go_simp <;> fail))); (focus (intro w hSw; clear hSw; go_simp; try with_reducible rfl)))) | (refine skipG 10 rfl (by kernel_rfl) ?_ ?_; (focus (first | rfl | (go_simp <;> fail))))
        try simp only [Act.put, nz1, nz2, nz3]
        focus (refine takeN 11 (v := ?_) rfl (by kernel_rfl) ?_ ?_; rotate_left; focus (intro w hSw; clear hSw; go_simp; try with_reducible rfl))
        try simp only [Act.put, nz1, nz2, nz3]
        refine wpAnyH_done (by kernel_rfl) ?_ _
        refine NoPanic.normal ?_
        all_goals
          go_wp2_with fail
          go_roundw
          case rel => exact ⟨p0 + 1 + 1, hlt, by go_num, hS.forget (x := .box b12 _) (by (repeat constructor))⟩
          case measure => simp [intOf]; omega
    · obtain rfl : i = Y36.length := by omega
      go_wp2_with (first
    | ((with_reducible refine' Wl.out ?_; apply k_box (ty := 48) (y := (.tmp 0)) hS); (· exact .mk); clear hS; intro w3 b3 hS)
    | ((with_reducible refine' Wl.out ?_; apply k_alloc (ty := 30) (dst := some 12) hS); (· exact .mk); clear hS; intro w12 b12 hS)
    | ((with_reducible refine' Wl.out ?_; apply k_alloc (ty := 30) (dst := some 18) hS); (· exact .mk); clear hS; intro w18 b18 hS)
    | ((with_reducible refine' Wl.out ?_; apply k_alloc (ty := 30) (dst := some 21) hS); (· exact .mk); clear hS; intro w21 b21 hS)
    | ((with_reducible refine' Wl.out ?_; apply k_load hS); (· exact .mk))
    | ((with_reducible refine' Wl.out ?_; apply k_loads hS); (· exact .mk))
    | go_skip
    | ((with_reducible refine' Wl.out ?_; apply kg_load hS); iterate 2 (· exact .mk))
    | ((with_reducible refine' Wl.out ?_; apply kg_loads hS); iterate 2 (· exact .mk))
    | ((with_reducible refine' Wl.out ?_; refine' wg_case ?_ ?_) <;> (intro hgW; (try (have hg2 := hgW; simp [go_sem] at hg2)); (first | (exfalso; assumption) | ((with_reducible refine' Wl.out ?_; apply k_no hgW)) | ((with_reducible refine' Wl.out ?_; apply kg_load hS ⟨hgW⟩); (· exact .mk)) | ((with_reducible refine' Wl.out ?_; apply kg_loads hS ⟨hgW⟩); (· exact .mk))); clear hgW))
    | ((with_reducible refine' Wl.out ?_; apply k_stores hS); (· exact .mk); clear hS; intro ws hS))
      go_loopw [13, 74] (fun vf vi wr => ∃ k : Nat, k ≤ s.ids.length ∧ vf = .int .i64 (cntOf s q Y36 k) ∧ vi = .int .i64 k ∧ St [] w (World.mem w) wr [.obj b47 (MapB Try.prog 2 4 .i64 Y36.length (inF Y36 Y36.length)), .box b3 [.int .i64 s.dim, .slice q1 s.ids.length c1, .slice q2 s.vecs.length c2]] m36) (fun _ vi _ => s.ids.length - (intOf vi).toNat)
      case atStart => exact ⟨0, Nat.zero_le _, rfl, rfl, hS⟩
      case round =>
        clear hS
        obtain ⟨k, hk, rfl, rfl, hS⟩ := hrel
        by_cases hlt : k < s.ids.length
        · obtain ⟨bi, oi, rfl, hcx, hkx⟩ := HI.out.intAt k hlt
          have hcx' := HLE.out _ _ hcx
          have hkz : (k : Int) < s.ids.length := by omega
          have HK := Lib.hid hkx
          by_cases hx : s.ids.getD k 0 = -1
          · have hc := Lib.hid (cnt_skip (q := q) (R := Y36) hx)
            clear hcx hkx HN
            generalize s.ids.getD k 0 = x at *
            subst hx
            go_wp2_with (first
    | ((with_reducible refine' Wl.out ?_; apply k_box (ty := 48) (y := (.tmp 0)) hS); (· exact .mk); clear hS; intro w3 b3 hS)
    | ((with_reducible refine' Wl.out ?_; apply k_alloc (ty := 30) (dst := some 12) hS); (· exact .mk); clear hS; intro w12 b12 hS)
    | ((with_reducible refine' Wl.out ?_; apply k_alloc (ty := 30) (dst := some 18) hS); (· exact .mk); clear hS; intro w18 b18 hS)
    | ((with_reducible refine' Wl.out ?_; apply k_alloc (ty := 30) (dst := some 21) hS); (· exact .mk); clear hS; intro w21 b21 hS)
    | ((with_reducible refine' Wl.out ?_; apply k_load hS); (· exact .mk))
    | ((with_reducible refine' Wl.out ?_; apply k_loads hS); (· exact .mk))
    | go_skip
    | ((with_reducible refine' Wl.out ?_; apply kg_load hS); iterate 2 (· exact .mk))
    | ((with_reducible refine' Wl.out ?_; apply kg_loads hS); iterate 2 (· exact .mk))
    | ((with_reducible refine' Wl.out ?_; refine' wg_case ?_ ?_) <;> (intro hgW; (try (have hg2 := hgW; simp [go_sem] at hg2)); (first | (exfalso; assumption) | ((with_reducible refine' Wl.out ?_; apply k_no hgW)) | ((with_reducible refine' Wl.out ?_; apply kg_load hS ⟨hgW⟩); (· exact .mk)) | ((with_reducible refine' Wl.out ?_; apply kg_loads hS ⟨hgW⟩); (· exact .mk))); clear hgW))
    | ((with_reducible refine' Wl.out ?_; apply k_stores hS); (· exact .mk); clear hS; intro ws hS))
            go_roundw
            case rel => exact ⟨k + 1, hlt, by rw [hc.out], by go_num, hS⟩
            case measure => simp [intOf]; omega
          · have hg := good_hit HM.out hlt hx
            have hl1 := Lib.hid HM.out.1.2.2.1
            obtain ⟨bv, ov, qv, cv, rfl, hcv, hrd⟩ := HV.out.listAt k (by rw [hl1.out]; exact hlt)
            have hcv' := HLE.out _ _ hcv
            have HVV := Lib.hid (Lay.mono _ HLE.out hrd)
            have HQ := Lib.hid (Lay.mono _ HLE.out A1.out)
            have hkz2 : (k : Int) < s.vecs.length := by have := hl1.out; omega
            have HdE := Lib.hid hg.1
            by_cases hin : s.ids.getD k 0 ∈ Y36.map Hit.id
            · have hc := Lib.hid (cnt_in (q := q) hx hin)
              have hmem := Lib.hid (HN.out.2.2.1 k hlt hx hin)
              have hcl : cntOf s q Y36 k ≤ 256 := Nat.le_trans (List.length_filter_le _ _) (Nat.le_trans (hitsOf_len s q k) (by omega))
              have zc : IntKind.i64.wrap ((cntOf s q Y36 k : Int) + 1) = (cntOf s q Y36 k : Int) + 1 := wrap64 (by omega) (by omega)
              have HLk : Hid ((inF Y36 Y36.length (s.ids.getD k 0)).getD false = true) := inF_all.trans (decide_eq_true hin)
              obtain ⟨D, hD⟩ : ∃ D, dN (s.vecs.getD k []) q = D := ⟨_, rfl⟩
              have HDD := Lib.hid hD
              have HX : Hid ((⟨D, s.ids.getD k 0⟩ : Hit) ∈ Y36) := by rw [← hD]; exact hmem.out
              clear hD hcx hkx HN hcv hrd hg hin hmem
              generalize s.vecs.getD k [] = vk at *
              generalize s.ids.getD k 0 = x at *
              go_wp2_with (first
    | ((with_reducible refine' Wl.out ?_; apply k_box (ty := 48) (y := (.tmp 0)) hS); (· exact .mk); clear hS; intro w3 b3 hS)
    | ((with_reducible refine' Wl.out ?_; apply k_alloc (ty := 30) (dst := some 12) hS); (· exact .mk); clear hS; intro w12 b12 hS)
    | ((with_reducible refine' Wl.out ?_; apply k_alloc (ty := 30) (dst := some 18) hS); (· exact .mk); clear hS; intro w18 b18 hS)
    | ((with_reducible refine' Wl.out ?_; apply k_alloc (ty := 30) (dst := some 21) hS); (· exact .mk); clear hS; intro w21 b21 hS)
    | ((with_reducible refine' Wl.out ?_; apply k_load hS); (· exact .mk))
    | ((with_reducible refine' Wl.out ?_; apply k_loads hS); (· exact .mk))
    | go_skip
    | ((with_reducible refine' Wl.out ?_; apply kg_load hS); iterate 2 (· exact .mk))
    | ((with_reducible refine' Wl.out ?_; apply kg_loads hS); iterate 2 (· exact .mk))
    | ((with_reducible refine' Wl.out ?_; refine' wg_case ?_ ?_) <;> (intro hgW; (try (have hg2 := hgW; simp [go_sem] at hg2)); (first | (exfalso; assumption) | ((with_reducible refine' Wl.out ?_; apply k_no hgW)) | ((with_reducible refine' Wl.out ?_; apply kg_load hS ⟨hgW⟩); (· exact .mk)) | ((with_reducible refine' Wl.out ?_; apply kg_loads hS ⟨hgW⟩); (· exact .mk))); clear hgW))
    | ((with_reducible refine' Wl.out ?_; apply k_stores hS); (· exact .mk); clear hS; intro ws hS)
                | (go_at_call 27; refine (vdist_c m36 _ hS.inw _ _ _ _ HVV.out HQ.out).mono ?_; rintro e' w88 ⟨_, m88, rfl, rfl, hk88⟩; replace hS := hS.grow (grownBy_of_below hk88.below); clear hk88; rw [HDD.out, HdE.out])
                | ((with_reducible refine' Wl.out ?_; apply wl_lookupB hS mapTB); (· exact rfl); (· (repeat constructor)); (· exact rfl); (· exact HK.out); (· exact HLk.out)))
              go_loopw [19, 103] (fun vb vi wr => ∃ j : Nat, j ≤ Y36.length ∧ vb = .bool (decide ((⟨D, x⟩ : Hit) ∈ Y36.take j)) ∧ vi = .int .i64 j ∧ St [] w (World.mem w) wr [.box b18 [.int .i64 D, .int .i64 x], .obj b47 (MapB Try.prog 2 4 .i64 Y36.length (inF Y36 Y36.length)), .box b3 [.int .i64 s.dim, .slice (some ⟨bi, oi, none⟩) s.ids.length c1, .slice (some ⟨bv, ov, none⟩) s.vecs.length c2]] m36) (fun _ vi _ => Y36.length - (intOf vi).toNat)
              case atStart => exact ⟨0, Nat.zero_le _, by simp, rfl, hS⟩
              case round =>
                clear hS
                obtain ⟨j, hj, rfl, rfl, hS⟩ := hrel
                by_cases hlt2 : j < Y36.length
                · obtain ⟨b2, o2, cs, rfl, hcs, hcell⟩ := HU.out.get j hlt2
                  obtain ⟨rfl, _, _⟩ := hitL_open hcs
                  have hcy : ∀ i v, [Value.int .i64 Y36[j].dist, .int .i64 Y36[j].id][i]? = some v → m36 ⟨b2, o2 + j * 2 + i, none⟩ = some v := hcell
                  have hjz : (j : Int) < Y36.length := by omega
                  have hs : Hid (decide ((⟨D, x⟩ : Hit) ∈ Y36.take (j + 1)) = (decide ((⟨D, x⟩ : Hit) ∈ Y36.take j) || (decide (Y36[j].dist = D) && decide (Y36[j].id = x)))) := by
                    show _ = _
                    rw [List.take_succ_eq_append_getElem hlt2, Bool.eq_iff_iff]
                    simp only [decide_eq_true_eq, List.mem_append, List.mem_singleton, Bool.or_eq_true, Bool.and_eq_true]
                    exact or_congr Iff.rfl ⟨fun e => by rw [← e]; exact ⟨rfl, rfl⟩, fun e => Hit.ext' e.1.symm e.2.symm⟩
                  clear hcs hcell HX hc zc
                  generalize decide ((⟨D, x⟩ : Hit) ∈ Y36.take j) = B at *
                  generalize Y36[j] = y at *
                  cases B
                  all_goals
                    by_cases e1 : y.dist = D
                    all_goals
                      by_cases e2 : y.id = x
                      all_goals
                        go_wp2_with (first
    | ((with_reducible refine' Wl.out ?_; refine' k_no ?_ ?_); (· rfl))
    | ((with_reducible refine' Wl.out ?_; apply k_box (ty := 48) (y := (.tmp 0)) hS); (· exact .mk); clear hS; intro w3 b3 hS)
    | ((with_reducible refine' Wl.out ?_; apply k_alloc (ty := 30) (dst := some 12) hS); (· exact .mk); clear hS; intro w12 b12 hS)
    | ((with_reducible refine' Wl.out ?_; apply k_alloc (ty := 30) (dst := some 18) hS); (· exact .mk); clear hS; intro w18 b18 hS)
    | ((with_reducible refine' Wl.out ?_; apply k_alloc (ty := 30) (dst := some 21) hS); (· exact .mk); clear hS; intro w21 b21 hS)
    | ((with_reducible refine' Wl.out ?_; apply k_load hS); (· exact .mk))
    | ((with_reducible refine' Wl.out ?_; apply k_loads hS); (· exact .mk))
    | go_skip
    | ((with_reducible refine' Wl.out ?_; apply kg_load hS); iterate 2 (· exact .mk))
    | ((with_reducible refine' Wl.out ?_; apply kg_loads hS); iterate 2 (· exact .mk))
    | ((with_reducible refine' Wl.out ?_; refine' wg_case ?_ ?_) <;> (intro hgW; (try (have hg2 := hgW; simp [go_sem] at hg2)); (first | (exfalso; assumption) | ((with_reducible refine' Wl.out ?_; apply k_no hgW)) | ((with_reducible refine' Wl.out ?_; apply kg_load hS ⟨hgW⟩); (· exact .mk)) | ((with_reducible refine' Wl.out ?_; apply kg_loads hS ⟨hgW⟩); (· exact .mk))); clear hgW))
    | ((with_reducible refine' Wl.out ?_; apply k_stores hS); (· exact .mk); clear hS; intro ws hS)
    | fail)
                        go_roundw
                        case rel => exact ⟨j + 1, hlt2, (by rw [hs.out]; simp [e1, e2]), by go_num, hS.forget (x := .box b21 _) (by (repeat constructor))⟩
                        case measure => simp [intOf]; omega
                · obtain rfl : j = Y36.length := by omega
                  rw [List.take_length, decide_eq_true HX.out]
                  go_wp2_with (first
    | ((with_reducible refine' Wl.out ?_; apply k_box (ty := 48) (y := (.tmp 0)) hS); (· exact .mk); clear hS; intro w3 b3 hS)
    | ((with_reducible refine' Wl.out ?_; apply k_alloc (ty := 30) (dst := some 12) hS); (· exact .mk); clear hS; intro w12 b12 hS)
    | ((with_reducible refine' Wl.out ?_; apply k_alloc (ty := 30) (dst := some 18) hS); (· exact .mk); clear hS; intro w18 b18 hS)
    | ((with_reducible refine' Wl.out ?_; apply k_alloc (ty := 30) (dst := some 21) hS); (· exact .mk); clear hS; intro w21 b21 hS)
    | ((with_reducible refine' Wl.out ?_; apply k_load hS); (· exact .mk))
    | ((with_reducible refine' Wl.out ?_; apply k_loads hS); (· exact .mk))
    | go_skip
    | ((with_reducible refine' Wl.out ?_; apply kg_load hS); iterate 2 (· exact .mk))
    | ((with_reducible refine' Wl.out ?_; apply kg_loads hS); iterate 2 (· exact .mk))
    | ((with_reducible refine' Wl.out ?_; refine' wg_case ?_ ?_) <;> (intro hgW; (try (have hg2 := hgW; simp [go_sem] at hg2)); (first | (exfalso; assumption) | ((with_reducible refine' Wl.out ?_; apply k_no hgW)) | ((with_reducible refine' Wl.out ?_; apply kg_load hS ⟨hgW⟩); (· exact .mk)) | ((with_reducible refine' Wl.out ?_; apply kg_loads hS ⟨hgW⟩); (· exact .mk))); clear hgW))
    | ((with_reducible refine' Wl.out ?_; apply k_stores hS); (· exact .mk); clear hS; intro ws hS)
                    | fail)
                  go_roundw
                  case rel => exact ⟨k + 1, hlt, by rw [hc.out]; rfl, by go_num, hS.forget (x := .box b18 _) (by (repeat constructor))⟩
                  case measure => simp [intOf]; omega
            · have hc := Lib.hid (cnt_out (q := q) hx hin)
              obtain ⟨f1, f2⟩ := HN.out.2.2.2.1 k hlt hx hin
              have hK1 := HM.out.2.2.2.1
              have f3 : K = (Y36.length : Int) := by omega
              have f4 : Y36.length - 1 < Y36.length := by omega
              have z1 : (1 : Int) ≤ Y36.length := by omega
              have z2 : ((Y36.length : Int) - 1).toNat = Y36.length - 1 := by omega
              have z3 : (Y36.length : Int) - 1 < Y36.length := by omega
              have z4 : IntKind.i64.wrap ((Y36.length : Int) - 1) = (Y36.length : Int) - 1 := wrap64 (by omega) (by omega)
              have HLk : Hid ((inF Y36 Y36.length (s.ids.getD k 0)).getD false = false) := inF_all.trans (decide_eq_false hin)
              obtain ⟨b2, o2, cs, rfl, hcs, hcell⟩ := HU.out.get (Y36.length - 1) f4
              obtain ⟨rfl, _, _⟩ := hitL_open hcs
              have hcy : ∀ j v, [Value.int .i64 Y36[Y36.length - 1].dist, .int .i64 Y36[Y36.length - 1].id][j]? = some v → m36 ⟨b2, o2 + (Y36.length - 1) * 2 + j, none⟩ = some v := hcell
              have hLx : Hid (decide ((⟨dN (s.vecs.getD k []) q, s.ids.getD k 0⟩ : Hit).lt ⟨Y36[Y36.length - 1].dist, Y36[Y36.length - 1].id⟩) = false) := decide_eq_false (f2 _ (List.getElem_mem f4))
              obtain ⟨D, hD⟩ : ∃ D, dN (s.vecs.getD k []) q = D := ⟨_, rfl⟩
              rw [hD] at hLx
              have HDD := Lib.hid hD
              clear hD hcx hkx HN hcs hcell hcv hrd hg f1 f2 hin hK1
              generalize s.vecs.getD k [] = vk at *
              generalize s.ids.getD k 0 = x at *
              generalize Y36[Y36.length - 1] = y at *
              have f5 : ((Y36.length : Int) < K) = False := eq_false (by omega)
              clear f3
              go_wp2_with (first
    | ((with_reducible refine' Wl.out ?_; apply k_box (ty := 48) (y := (.tmp 0)) hS); (· exact .mk); clear hS; intro w3 b3 hS)
    | ((with_reducible refine' Wl.out ?_; apply k_alloc (ty := 30) (dst := some 12) hS); (· exact .mk); clear hS; intro w12 b12 hS)
    | ((with_reducible refine' Wl.out ?_; apply k_alloc (ty := 30) (dst := some 18) hS); (· exact .mk); clear hS; intro w18 b18 hS)
    | ((with_reducible refine' Wl.out ?_; apply k_alloc (ty := 30) (dst := some 21) hS); (· exact .mk); clear hS; intro w21 b21 hS)
    | ((with_reducible refine' Wl.out ?_; apply k_load hS); (· exact .mk))
    | ((with_reducible refine' Wl.out ?_; apply k_loads hS); (· exact .mk))
    | go_skip
    | ((with_reducible refine' Wl.out ?_; apply kg_load hS); iterate 2 (· exact .mk))
    | ((with_reducible refine' Wl.out ?_; apply kg_loads hS); iterate 2 (· exact .mk))
    | ((with_reducible refine' Wl.out ?_; refine' wg_case ?_ ?_) <;> (intro hgW; (try (have hg2 := hgW; simp [go_sem] at hg2)); (first | (exfalso; assumption) | ((with_reducible refine' Wl.out ?_; apply k_no hgW)) | ((with_reducible refine' Wl.out ?_; apply kg_load hS ⟨hgW⟩); (· exact .mk)) | ((with_reducible refine' Wl.out ?_; apply kg_loads hS ⟨hgW⟩); (· exact .mk))); clear hgW))
    | ((with_reducible refine' Wl.out ?_; apply k_stores hS); (· exact .mk); clear hS; intro ws hS)
                | (go_at_call 27; refine (vdist_c m36 _ hS.inw _ _ _ _ HVV.out HQ.out).mono ?_; rintro e' w88 ⟨_, m88, rfl, rfl, hk88⟩; replace hS := hS.grow (grownBy_of_below hk88.below); clear hk88; rw [HDD.out, HdE.out])
                | ((with_reducible refine' Wl.out ?_; apply wl_lookupB hS mapTB); (· exact rfl); (· (repeat constructor)); (· exact rfl); (· exact HK.out); (· exact HLk.out)))
              replace hS := hS.drew
              refine startL (S := Sx _ [(b18, _)]) (by kernel_rfl) (hS.sx0.cons hS (by (repeat constructor))) (fun _ _ _ _ => trivial) (fun hHeld => ?_)
              focus (refine takeN 0 (v := ?_) rfl (by kernel_rfl) ?_ ?_; rotate_left; focus (intro w hSw; clear hSw; go_simp; try with_reducible rfl))
              try simp only [Act.put, nz1, nz2, nz3]
              focus (refine takeN 1 (v := ?_) rfl (by kernel_rfl) ?_ ?_; rotate_left; focus (intro w hSw; clear hSw; go_simp; try with_reducible rfl))
              try simp only [Act.put, nz1, nz2, nz3]
              focus (refine takeN 2 (v := ?_) rfl (by kernel_rfl) ?_ ?_; rotate_left; focus (intro w hSw; clear hSw; go_simp; try with_reducible rfl))
              try simp only [Act.put, nz1, nz2, nz3]
              focus (refine takeN 3 (v := ?_) rfl (by kernel_rfl) ?_ ?_; rotate_left; focus (intro w hSw; clear hSw; go_simp; try with_reducible rfl))
              try simp only [Act.put, nz1, nz2, nz3]
              focus (refine takeN 4 (v := ?_) rfl (by kernel_rfl) ?_ ?_; rotate_left; focus (intro w hSw; clear hSw; go_simp; try with_reducible rfl))
              try simp only [Act.put, nz1, nz2, nz3]
              first | (focus (refine' takeG 5 rfl (by kernel_rfl) ?_ ?_ ?_; rotate_left; (focus (first | rfl | (go_simp <;> fail))); (focus (intro w hSw; refine' yield_loads rfl rowT30 rfl ?_ w hSw; (first | (apply FindsX.box; (· (repeat constructor)); (· (repeat constructor)); done) | (refine FindsX.mem (by assumption) ?_; first | rfl | assumption | (simp; done))))))) | (refine skipG 5 rfl (by kernel_rfl) ?_ ?_; (focus (first | rfl | (go_simp <;> fail))))
              try simp only [Act.put, nz1, nz2, nz3]
              first | (focus (refine takeG 6 (v := ?_) rfl (by kernel_rfl) ?_ ?_ ?_; rotate_left; (focus (first | rfl | (go_simp <;> fail))); (focus (intro w hSw; clear hSw; go_simp; try with_reducible rfl)))) | (refine skipG 6 rfl (by kernel_rfl) ?_ ?_; (focus (first | rfl | (go_simp <;> fail))))
              try simp only [Act.put, nz1, nz2, nz3]
              first | (focus (refine takeG 7 (v := ?_) rfl (by kernel_rfl) ?_ ?_ ?_; rotate_left; (focus (first | rfl | (go_simp <;> fail))); (focus (intro w hSw; clear hSw; go_simp; try with_reducible rfl)))) | (refine skipG 7 rfl (by kernel_rfl) ?_ ?_; (focus (first | rfl | (go_simp <;> fail))))
              try simp only [Act.put, nz1, nz2, nz3]
              first | (focus (refine takeG 8 (v := ?_) rfl (by kernel_rfl) ?_ ?_ ?_; rotate_left; (focus (first | rfl | (go_simp <;> fail))); (focus (intro w hSw; clear hSw; go_simp; try with_reducible rfl)))) | (refine skipG 8 rfl (by kernel_rfl) ?_ ?_; (focus (first | rfl | (go_simp <;> fail))))
              try simp only [Act.put, nz1, nz2, nz3]
              first | (focus (refine takeG 9 (v := ?_) rfl (by kernel_rfl) ?_ ?_ ?_; rotate_left; (focus (first | rfl | (go_simp <;> fail))); (focus (intro w hSw; clear hSw; go_simp; try with_reducible rfl)))) | (refine skipG 9 rfl (by kernel_rfl) ?_ ?_; (focus (first | rfl | (go_simp <;> fail))))
              try simp only [Act.put, nz1, nz2, nz3]
              first | (focus (refine takeG 10 (v := ?_) rfl (by kernel_rfl) ?_ ?_ ?_; rotate_left; (focus (first | rfl | (go_simp <;> fail))); (focus (intro w hSw; clear hSw; go_simp; try with_reducible rfl)))) | (refine skipG 10 rfl (by kernel_rfl) ?_ ?_; (focus (first | rfl | (go_simp <;> fail))))
              try simp only [Act.put, nz1, nz2, nz3]
              first | (focus (refine' takeG 11 rfl (by kernel_rfl) ?_ ?_ ?_; rotate_left; (focus (first | rfl | (go_simp <;> fail))); (focus (intro w hSw; refine' yield_loads rfl rowT30 rfl ?_ w hSw; (first | (apply FindsX.box; (· (repeat constructor)); (· (repeat constructor)); done) | (refine FindsX.mem (by assumption) ?_; first | rfl | assumption | (simp; done))))))) | (refine skipG 11 rfl (by kernel_rfl) ?_ ?_; (focus (first | rfl | (go_simp <;> fail))))
              try simp only [Act.put, nz1, nz2, nz3]
              refine wpAnyH_ready (rs := [12]) (by kernel_rfl) (by simp) ?_
              refine consL 12 rfl (fun K hK => ?_) AllReadyH.nil
              rw [if_pos (by rfl)]; go_simp; refine (rless_v (World.mem _) _ (World.mem_in _) _ _ _ _).mono ?_; rintro e' w128 ⟨_, m128, rfl, hv128, hk128⟩; replace hS := hS.grow (grownBy_of_below hk128.below); clear hk128; rw [hLx.out] at hv128; subst hv128; go_wp2_with fail
              refine hK.out _ _ (by first | exact (hS.sx0.cons hS (by (repeat constructor))) | exact Sx.le (by assumption) (hS.sx0.cons hS (by (repeat constructor)))) (fun hHeld => ?_)
              clear hK K
              try simp only [Act.put, nz1, nz2, nz3]
              focus (refine takeN 13 (v := ?_) rfl (by kernel_rfl) ?_ ?_; rotate_left; focus (intro w hSw; clear hSw; go_simp; try with_reducible rfl))
              try simp only [Act.put, nz1, nz2, nz3]
              refine wpAnyH_done (by kernel_rfl) ?_ _
              refine NoPanic.normal ?_
              all_goals
                go_wp2_with fail
                go_roundw
                case rel => exact ⟨k + 1, hlt, by rw [hc.out], by go_num, hS.forget (x := .box b18 _) (by (repeat constructor))⟩
                case measure => simp [intOf]; omega
        · obtain rfl : k = s.ids.length := by omega
          have hc := Lib.hid HN.out.2.2.2.2
          rw [hc.out]
          clear HN hc
          go_wp2_with (first
    | ((with_reducible refine' Wl.out ?_; apply k_box (ty := 48) (y := (.tmp 0)) hS); (· exact .mk); clear hS; intro w3 b3 hS)
    | ((with_reducible refine' Wl.out ?_; apply k_alloc (ty := 30) (dst := some 12) hS); (· exact .mk); clear hS; intro w12 b12 hS)
    | ((with_reducible refine' Wl.out ?_; apply k_alloc (ty := 30) (dst := some 18) hS); (· exact .mk); clear hS; intro w18 b18 hS)
    | ((with_reducible refine' Wl.out ?_; apply k_alloc (ty := 30) (dst := some 21) hS); (· exact .mk); clear hS; intro w21 b21 hS)
    | ((with_reducible refine' Wl.out ?_; apply k_load hS); (· exact .mk))
    | ((with_reducible refine' Wl.out ?_; apply k_loads hS); (· exact .mk))
    | go_skip
    | ((with_reducible refine' Wl.out ?_; apply kg_load hS); iterate 2 (· exact .mk))
    | ((with_reducible refine' Wl.out ?_; apply kg_loads hS); iterate 2 (· exact .mk))
    | ((with_reducible refine' Wl.out ?_; refine' wg_case ?_ ?_) <;> (intro hgW; (try (have hg2 := hgW; simp [go_sem] at hg2)); (first | (exfalso; assumption) | ((with_reducible refine' Wl.out ?_; apply k_no hgW)) | ((with_reducible refine' Wl.out ?_; apply kg_load hS ⟨hgW⟩); (· exact .mk)) | ((with_reducible refine' Wl.out ?_; apply kg_loads hS ⟨hgW⟩); (· exact .mk))); clear hgW))
    | ((with_reducible refine' Wl.out ?_; apply k_stores hS); (· exact .mk); clear hS; intro ws hS))
          (first | (go_ret; exact ⟨rfl, hS.below⟩) | (go_ret; refine ⟨?_, hS.below⟩; simp; done))
end Go.Proofs.Ytlkdjmpkapeppaa
