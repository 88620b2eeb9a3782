/- model.Of. -/
import Derived.Test.YtnbhhdncbajkgaaGreatDoorLv2G
import Derived.Test.YtnbhhdncbajkgaaGreatDoorG2
namespace Go.Proofs.YtnbhhdncbajkgaaGreatDoor
set_option linter.unusedVariables false
set_option linter.unusedSimpArgs false
open Go.RowKit Go.Shelf
noncomputable def vecAt (s : Sl) (x : Int) : List Int := s.vecs.getD (fiI s x).toNat []
noncomputable def itemsK (s : Sl) (L : List Int) (k : Nat) : List It := (L.take k).map fun x => ⟨x, vecAt s x⟩
theorem live_find {s : Sl} {x : Int} (hd : dirOK s) (h : (dirF s s.ids.length x).isSome = true) : ∃ i : Nat, i < s.ids.length ∧ fiI s x = i ∧ fiE s x = 0 ∧ dirF s s.ids.length x = some (i : Int) := by
  obtain ⟨y, hy⟩ := Option.isSome_iff_exists.1 h
  obtain ⟨i, hi, rfl, hid, hz⟩ := dirF_at s _ hy
  have hr : 0 ≤ x ∧ x ≤ 2147483647 := by
    rcases hd.2.2.2 i hi with ⟨g1, _⟩ | ⟨g1, g2, _⟩
    · exact absurd (hid.symm.trans g1) hz
    · rw [hid] at g1 g2; exact ⟨g1, g2⟩
  refine ⟨i, hi, ?_, ?_, hy⟩
  · unfold fiI; rw [if_pos ⟨hd, hr⟩, hy]; rfl
  · unfold fiE; rw [if_pos ⟨hd, hr⟩, if_pos h]
theorem getM_map {f : Int → List Int} {z : Int} : ∀ {L : List Int}, getM (L.map fun x => (⟨x, f x⟩ : It)) z = if z ∈ L then some (f z) else none
  | [] => by simp [getM]
  | x :: L => by
    rw [List.map_cons]
    unfold getM
    by_cases e : x = z
    · subst e; simp
    · rw [if_neg e, getM_map]
      by_cases h : z ∈ L
      · rw [if_pos h, if_pos (List.mem_cons_of_mem _ h)]
      · rw [if_neg h, if_neg fun hh => by
          rcases List.mem_cons.1 hh with hh | hh
          · exact e hh.symm
          · exact h hh]
theorem items_all {s : Sl} {L : List Int} (hd : dirOK s) (h : LiveL s L) : itemsK s L L.length = modL s s.ids.length := by
  unfold itemsK
  rw [List.take_length]
  refine ris_ext ?_ (modL_ris s _) fun z => ?_
  · unfold Ris
    rw [List.pairwise_map]
    exact h.1
  · rw [getM_map, modL_get]
    by_cases hz : z ∈ L
    · rw [if_pos hz]
      obtain ⟨i, hi, e1, e2, e3⟩ := live_find hd ((h.2 z).1 hz)
      rw [e3]
      simp only [Option.map_some, Int.toNat_natCast]
      unfold vecAt
      rw [e1]; rfl
    · rw [if_neg hz]
      cases e : dirF s s.ids.length z with
      | none => rfl
      | some y => exact absurd ((h.2 z).2 (by rw [e]; rfl)) hz
theorem items_step {s : Sl} {L : List Int} {k : Nat} (hk : k < L.length) : itemsK s L (k + 1) = itemsK s L k ++ [⟨L.getD k 0, vecAt s (L.getD k 0)⟩] := by
  unfold itemsK
  have e : L.getD k 0 = L[k] := by simp [List.getD, hk]
  rw [List.take_succ_eq_append_getElem hk, List.map_append, e]; rfl
theorem items_len {s : Sl} {L : List Int} {k : Nat} (hk : k ≤ L.length) : (itemsK s L k).length = k := by unfold itemsK; simp; omega
def OfQ (s : Sl) (v : Value) (m' : Mem) : Prop := ∃ T q c, Hid (dirOK s → T = mdOf s) ∧ v = .tuple #[.agg #[.int .i64 T.cap, .int .i64 T.dim, .slice q T.l.length c], .int .i64 (chkS s)] ∧ Hid (itL.list.rd m' [.slice q T.l.length c] T.l)
set_option maxRecDepth 100000 in
set_option maxHeartbeats 8000000 in
theorem of_c (m : Mem) (w : World) (hm : m.In w) (q1 q2 : Option Addr) (c1 c2 : Nat) (s : Sl) (h : slL.rd m [.int .i64 s.dim, .slice q1 s.ids.length c1, .slice q2 s.vecs.length c2] s) :
    Calls Tryz.prog 13 #[.agg #[.int .i64 s.dim, .slice q1 s.ids.length c1, .slice q2 s.vecs.length c2]] w (Ret w m (OfQ s)) := by
  have hS := St.start hm
  have A0 := Lib.hid h
  have hz2 : slL.rd m [.int .i64 s.dim, .slice q1 s.ids.length c1, .slice q2 s.vecs.length c2] s := h
  have HVs : Hid (Row vecL m q2 s.vecs) := by
    obtain ⟨_, _, _, _, e, _, _, h2⟩ := slL_open h
    cases e
    obtain ⟨_, _, e, _, _, _, r⟩ := Lay.list_open h2
    cases e; exact r
  clear h hz2
  by_cases hd : dirOK s
  · have hN := Lib.hid hd
    have hC : Hid (chkS s = 0) := if_pos hd
    have hn : s.ids.length ≤ 256 := hd.2.1.2
    have hvl : Hid (s.vecs.length = s.ids.length) := hd.2.2.1
    clear hd
    go_enter Tryz.func13, Tryz.ntmps13
    go_wp2_with (first
    | ((with_reducible refine' Wl.out ?_; apply k_box (ty := 32) (y := (.tmp 0)) hS); (· exact .mk); clear hS; intro w1 b1 hS)
    | ((with_reducible refine' Wl.out ?_; apply k_alloc (ty := 24) (dst := some 2) hS); (· exact .mk); clear hS; intro w2 b2 hS)
    | ((with_reducible refine' Wl.out ?_; apply k_alloc (ty := 24) (dst := some 6) hS); (· exact .mk); clear hS; intro w6 b6 hS)
    | ((with_reducible refine' Wl.out ?_; apply k_load hS); (· exact .mk))
    | ((with_reducible refine' Wl.out ?_; apply k_loads hS); (· exact .mk))
    | ((with_reducible refine' Wl.out ?_; apply k_store hS); (· exact .mk); clear hS; intro ws hS)
    | ((with_reducible refine' Wl.out ?_; apply k_storeR hS); (· exact .mk); clear hS; intro ws hS)
    | ((with_reducible refine' Wl.out ?_; apply k_stores hS); (· exact .mk); clear hS; intro ws hS)
      | (go_at_call 39; refine (live_sl_c m _ hS.inw _ _ _ s A0.out).mono ?_; rintro e' w13 ⟨_, m13, rfl, ⟨L, qL, cL, rfl, hL, hL2, RL⟩, hk⟩; replace hS := hS.call hk; replace A0 := Lib.hid (Lay.mono _ hk.le A0.out); replace HVs := Lib.hid (HVs.out.mono hk.le); have HL0 := Lib.hid hk.le; clear hk; rw [hC.out]))
    have HL := Lib.hid (hL.out hN.out)
    have hLn := hL2.out
    have HLr : Hid (Row i64L m13 qL L) := by obtain ⟨_, _, e, _, _, _, r⟩ := Lay.list_open RL.out; cases e; exact r
    clear hL hL2
    replace hS := hS.nilRow 50 2
    go_loopw [28] (fun vi wr => ∃ (k : Nat) (q : Option Addr) (c : Nat) (cells : List Value) (m' : Mem), k ≤ L.length ∧ vi = .int .i64 k ∧ Hid (m13.Le m') ∧ Hid (CellsOf itL m' cells (itemsK s L k)) ∧ St [] w m wr [.row 50 2 (.slice q k c) k cells, .box b6 [.int .i64 s.ids.length, .int .i64 s.dim, .slice q k c], .box b2 [.int .i64 0, .int .i64 0, .slice none 0 0], .box b1 [.int .i64 s.dim, .slice q1 s.ids.length c1, .slice q2 s.vecs.length c2]] m') (fun vi _ => L.length - (intOf vi).toNat)
    case atStart => exact ⟨0, none, 0, [], m13, Nat.zero_le _, rfl, Mem.Le.refl _, CellsOf.nil _ _, hS⟩
    case round =>
      clear hS
      obtain ⟨k, q, c, cells, m', hk, rfl, HLE, HC, hS⟩ := hrel
      by_cases hlt : k < L.length
      · obtain ⟨b3, o3, rfl, hcx, hix⟩ := (HLr.out.mono HLE.out).intAt k hlt
        have hkz : (k : Int) < L.length := by omega
        have hmem : L.getD k 0 ∈ L := by
          have e : L.getD k 0 = L[k] := by simp [List.getD, hlt]
          rw [e]; exact List.getElem_mem hlt
        have hst := items_step (s := s) hlt
        obtain ⟨i, hi, e1, e2, _⟩ := live_find hN.out ((HL.out.2 _).1 hmem)
        generalize L.getD k 0 = x at *
        have hvx : vecAt s x = s.vecs.getD i [] := by unfold vecAt; rw [e1]; rfl
        rw [hvx] at hst
        have hi2 : i < s.vecs.length := by have := hvl.out; omega
        obtain ⟨b4, o4, qv, cv, rfl, hcv, hvv⟩ := (HVs.out.mono HLE.out).listAt i hi2
        have hiz : (i : Int) < s.vecs.length := by omega
        have hi0 : (0 : Int) ≤ i := by omega
        have HIx := Lib.hid hix
        have HV := Lib.hid hvv
        have HI := Lib.hid e1
        have HF := Lib.hid e2
        have HSt := Lib.hid hst
        have A0' := Lib.hid (Lay.mono _ HLE.out A0.out)
        clear hix hvv e1 e2 hst hvx hmem
        generalize s.vecs.getD i [] = v at *
        have HB : Hid (v.length * (Lay.int .i16).bytes ≤ 140737488355328) := by obtain ⟨_, _, e, _, _, h3, _⟩ := HV.out; cases e; exact h3
        go_wp2_with (first
    | ((with_reducible refine' Wl.out ?_; apply k_box (ty := 32) (y := (.tmp 0)) hS); (· exact .mk); clear hS; intro w1 b1 hS)
    | ((with_reducible refine' Wl.out ?_; apply k_alloc (ty := 24) (dst := some 2) hS); (· exact .mk); clear hS; intro w2 b2 hS)
    | ((with_reducible refine' Wl.out ?_; apply k_alloc (ty := 24) (dst := some 6) hS); (· exact .mk); clear hS; intro w6 b6 hS)
    | ((with_reducible refine' Wl.out ?_; apply k_load hS); (· exact .mk))
    | ((with_reducible refine' Wl.out ?_; apply k_loads hS); (· exact .mk))
    | ((with_reducible refine' Wl.out ?_; apply k_store hS); (· exact .mk); clear hS; intro ws hS)
    | ((with_reducible refine' Wl.out ?_; apply k_storeR hS); (· exact .mk); clear hS; intro ws hS)
    | ((with_reducible refine' Wl.out ?_; apply k_stores hS); (· exact .mk); clear hS; intro ws hS)
          | (go_at_call 40; refine (sfind_c m' _ hS.inw _ _ _ s A0'.out x HIx.out).mono ?_; rintro e' w35 ⟨_, m35, rfl, rfl, hk⟩; replace hS := hS.grow (grownBy_of_below hk.below); clear hk; rw [HI.out, HF.out]))
        replace hS := hS.drew
        refine startL (S := Sx _ [(b1, _)]) (by kernel_rfl) (hS.sx0.cons hS (by (repeat constructor))) (fun _ _ _ _ => trivial) (fun hHeld => ?_)
        focus (refine takeN 0 (v := ?_) rfl (by kernel_rfl) ?_ ?_; rotate_left; focus (intro w hSw; clear hSw; go_simp; try with_reducible rfl))
        try simp only [Act.put, nz1, nz2, nz3]
        focus (refine takeN 2 (v := ?_) rfl (by kernel_rfl) ?_ ?_; rotate_left; focus (intro w hSw; clear hSw; go_simp; try with_reducible rfl))
        try simp only [Act.put, nz1, nz2, nz3]
        focus (refine takeN 3 (v := ?_) rfl (by kernel_rfl) ?_ ?_; rotate_left; focus (intro w hSw; clear hSw; go_simp; try with_reducible rfl))
        try simp only [Act.put, nz1, nz2, nz3]
        refine takeN 4 rfl (by kernel_rfl) (yield_load rfl Tryz.underlying30 rfl rfl (by (first | (apply FindX.box; (· (repeat constructor)); rfl) | exact FindX.mem (by assumption)))) ?_
        try simp only [Act.put, nz1, nz2, nz3]
        focus (refine takeN 5 (v := ?_) rfl (by kernel_rfl) ?_ ?_; rotate_left; focus (intro w hSw; clear hSw; go_simp; try with_reducible rfl))
        try simp only [Act.put, nz1, nz2, nz3]
        focus (refine takeN 6 (v := ?_) rfl (by kernel_rfl) ?_ ?_; rotate_left; focus (intro w hSw; clear hSw; go_simp; try with_reducible rfl))
        try simp only [Act.put, nz1, nz2, nz3]
        refine takeN 7 rfl (by kernel_rfl) (yield_load rfl Tryz.underlying26 rfl rfl (by (first | (apply FindX.box; (· (repeat constructor)); rfl) | exact FindX.mem (by assumption)))) ?_
        try simp only [Act.put, nz1, nz2, nz3]
        refine wpAnyH_ready (rs := [1, 8]) (by kernel_rfl) (by simp) ?_
        refine consL 1 rfl (fun K hK => ?_) (consL 8 rfl (fun K hK => ?_) AllReadyH.nil)
        rotate_right
        focus
          rw [if_pos (by rfl)]; go_simp; refine (vclone_c _ _ hS.inw _ HV.out).mono ?_; rintro e' w50 ⟨q50, c50, news50, rfl, hc50, hk50⟩; replace hS := hS.callOwn hk50; clear hk50; go_wp2_with fail
          refine hK.out _ _ (by first | exact (hS.sx0.cons hS (by (repeat constructor))) | exact Sx.le (by assumption) (hS.sx0.cons hS (by (repeat constructor)))) (fun hHeld => ?_)
          clear hK K
          try simp only [Act.put, nz1, nz2, nz3]
          focus (refine takeN 9 (v := ?_) rfl (by kernel_rfl) ?_ ?_; rotate_left; focus (intro w hSw; clear hSw; go_simp; try with_reducible rfl))
          try simp only [Act.put, nz1, nz2, nz3]
          refine wpAnyH_ready (rs := [1, 10]) (by kernel_rfl) (by simp) ?_
          refine consL 1 rfl (fun K hK => ?_) (consL 10 rfl (fun K hK => ?_) AllReadyH.nil)
          rotate_right
          focus
            (with_reducible apply s_lit el_item hS (cs := [.int .i64 x, .slice q50 v.length c50])); (· decide); (· decide); (· kernel_rfl); clear hS; intro w52 b52 hS
            refine hK.out _ _ (by first | exact (hS.sx0.cons hS (by (repeat constructor))) | exact Sx.le (by assumption) (hS.sx0.cons hS (by (repeat constructor)))) (fun hHeld => ?_)
            clear hK K
            try simp only [Act.put, nz1, nz2, nz3]
            refine wpAnyH_ready (rs := [1]) (by kernel_rfl) (by simp) ?_
            refine consL 1 rfl (fun K hK => ?_) AllReadyH.nil
            (with_reducible apply s_load hS); (· exact Tryz.underlying22); (· exact rfl); (· exact rfl); (· (first | (apply Find.box; (· (repeat constructor)); rfl) | exact Find.mem (by assumption) | (apply Find.row; (· (repeat constructor)); assumption)))
            refine hK.out _ _ (by first | exact (hS.sx0.cons hS (by (repeat constructor))) | exact Sx.le (by assumption) (hS.sx0.cons hS (by (repeat constructor)))) (fun hHeld => ?_)
            clear hK K
            try simp only [Act.put, nz1, nz2, nz3]
            refine wpAnyH_ready (rs := [11]) (by kernel_rfl) (by simp) ?_
            refine consL 11 rfl (fun K hK => ?_) AllReadyH.nil
            (with_reducible apply s_appendB el_item hS (by decide)); (· exact rfl); (· (repeat constructor)); (· exact rfl); (· (repeat constructor)); (· rfl); (· simp [Value.oneCell']); (· omega); clear hS; intro w53 q53 c53 hS
            refine hK.out _ _ (by first | exact (hS.sx0.cons hS (by (repeat constructor))) | exact Sx.le (by assumption) (hS.sx0.cons hS (by (repeat constructor)))) (fun hHeld => ?_)
            clear hK K
            try simp only [Act.put, nz1, nz2, nz3]
            focus (refine takeN 12 (v := ?_) rfl (by kernel_rfl) ?_ ?_; rotate_left; focus (intro w hSw; clear hSw; go_simp; try with_reducible rfl))
            try simp only [Act.put, nz1, nz2, nz3]
            refine wpAnyH_ready (rs := [13]) (by kernel_rfl) (by simp) ?_
            refine consL 13 rfl (fun K hK => ?_) AllReadyH.nil
            (with_reducible apply s_store hS); (· exact rowT22); (· exact rfl); (· (first | (go_simp; done) | (go_simp; with_reducible rfl))); (· (first | rfl | assumption | (simp [Value.oneCell']; done))); (· (repeat constructor)); (· (repeat constructor)); (· (repeat constructor)); clear hS; intro ws hS
            refine hK.out _ _ (by first | exact (hS.sx0.cons hS (by (repeat constructor))) | exact Sx.le (by assumption) (hS.sx0.cons hS (by (repeat constructor)))) (fun hHeld => ?_)
            clear hK K
            try simp only [Act.put, nz1, nz2, nz3]
            refine wpAnyH_done (by kernel_rfl) ?_ _
            refine NoPanic.normal ?_
          rotate_right
          focus
            (with_reducible apply s_load hS); (· exact Tryz.underlying22); (· exact rfl); (· exact rfl); (· (first | (apply Find.box; (· (repeat constructor)); rfl) | exact Find.mem (by assumption) | (apply Find.row; (· (repeat constructor)); assumption)))
            refine hK.out _ _ (by first | exact (hS.sx0.cons hS (by (repeat constructor))) | exact Sx.le (by assumption) (hS.sx0.cons hS (by (repeat constructor)))) (fun hHeld => ?_)
            clear hK K
            try simp only [Act.put, nz1, nz2, nz3]
            refine wpAnyH_ready (rs := [10]) (by kernel_rfl) (by simp) ?_
            refine consL 10 rfl (fun K hK => ?_) AllReadyH.nil
            (with_reducible apply s_lit el_item hS (cs := [.int .i64 x, .slice q50 v.length c50])); (· decide); (· decide); (· kernel_rfl); clear hS; intro w52 b52 hS
            refine hK.out _ _ (by first | exact (hS.sx0.cons hS (by (repeat constructor))) | exact Sx.le (by assumption) (hS.sx0.cons hS (by (repeat constructor)))) (fun hHeld => ?_)
            clear hK K
            try simp only [Act.put, nz1, nz2, nz3]
            refine wpAnyH_ready (rs := [11]) (by kernel_rfl) (by simp) ?_
            refine consL 11 rfl (fun K hK => ?_) AllReadyH.nil
            (with_reducible apply s_appendB el_item hS (by decide)); (· exact rfl); (· (repeat constructor)); (· exact rfl); (· (repeat constructor)); (· rfl); (· simp [Value.oneCell']); (· omega); clear hS; intro w53 q53 c53 hS
            refine hK.out _ _ (by first | exact (hS.sx0.cons hS (by (repeat constructor))) | exact Sx.le (by assumption) (hS.sx0.cons hS (by (repeat constructor)))) (fun hHeld => ?_)
            clear hK K
            try simp only [Act.put, nz1, nz2, nz3]
            focus (refine takeN 12 (v := ?_) rfl (by kernel_rfl) ?_ ?_; rotate_left; focus (intro w hSw; clear hSw; go_simp; try with_reducible rfl))
            try simp only [Act.put, nz1, nz2, nz3]
            refine wpAnyH_ready (rs := [13]) (by kernel_rfl) (by simp) ?_
            refine consL 13 rfl (fun K hK => ?_) AllReadyH.nil
            (with_reducible apply s_store hS); (· exact rowT22); (· exact rfl); (· (first | (go_simp; done) | (go_simp; with_reducible rfl))); (· (first | rfl | assumption | (simp [Value.oneCell']; done))); (· (repeat constructor)); (· (repeat constructor)); (· (repeat constructor)); clear hS; intro ws hS
            refine hK.out _ _ (by first | exact (hS.sx0.cons hS (by (repeat constructor))) | exact Sx.le (by assumption) (hS.sx0.cons hS (by (repeat constructor)))) (fun hHeld => ?_)
            clear hK K
            try simp only [Act.put, nz1, nz2, nz3]
            refine wpAnyH_done (by kernel_rfl) ?_ _
            refine NoPanic.normal ?_
        rotate_right
        focus
          (with_reducible apply s_load hS); (· exact Tryz.underlying22); (· exact rfl); (· exact rfl); (· (first | (apply Find.box; (· (repeat constructor)); rfl) | exact Find.mem (by assumption) | (apply Find.row; (· (repeat constructor)); assumption)))
          refine hK.out _ _ (by first | exact (hS.sx0.cons hS (by (repeat constructor))) | exact Sx.le (by assumption) (hS.sx0.cons hS (by (repeat constructor)))) (fun hHeld => ?_)
          clear hK K
          try simp only [Act.put, nz1, nz2, nz3]
          refine wpAnyH_ready (rs := [8]) (by kernel_rfl) (by simp) ?_
          refine consL 8 rfl (fun K hK => ?_) AllReadyH.nil
          rw [if_pos (by rfl)]; go_simp; refine (vclone_c _ _ hS.inw _ HV.out).mono ?_; rintro e' w50 ⟨q50, c50, news50, rfl, hc50, hk50⟩; replace hS := hS.callOwn hk50; clear hk50; go_wp2_with fail
          refine hK.out _ _ (by first | exact (hS.sx0.cons hS (by (repeat constructor))) | exact Sx.le (by assumption) (hS.sx0.cons hS (by (repeat constructor)))) (fun hHeld => ?_)
          clear hK K
          try simp only [Act.put, nz1, nz2, nz3]
          focus (refine takeN 9 (v := ?_) rfl (by kernel_rfl) ?_ ?_; rotate_left; focus (intro w hSw; clear hSw; go_simp; try with_reducible rfl))
          try simp only [Act.put, nz1, nz2, nz3]
          refine wpAnyH_ready (rs := [10]) (by kernel_rfl) (by simp) ?_
          refine consL 10 rfl (fun K hK => ?_) AllReadyH.nil
          (with_reducible apply s_lit el_item hS (cs := [.int .i64 x, .slice q50 v.length c50])); (· decide); (· decide); (· kernel_rfl); clear hS; intro w52 b52 hS
          refine hK.out _ _ (by first | exact (hS.sx0.cons hS (by (repeat constructor))) | exact Sx.le (by assumption) (hS.sx0.cons hS (by (repeat constructor)))) (fun hHeld => ?_)
          clear hK K
          try simp only [Act.put, nz1, nz2, nz3]
          refine wpAnyH_ready (rs := [11]) (by kernel_rfl) (by simp) ?_
          refine consL 11 rfl (fun K hK => ?_) AllReadyH.nil
          (with_reducible apply s_appendB el_item hS (by decide)); (· exact rfl); (· (repeat constructor)); (· exact rfl); (· (repeat constructor)); (· rfl); (· simp [Value.oneCell']); (· omega); clear hS; intro w53 q53 c53 hS
          refine hK.out _ _ (by first | exact (hS.sx0.cons hS (by (repeat constructor))) | exact Sx.le (by assumption) (hS.sx0.cons hS (by (repeat constructor)))) (fun hHeld => ?_)
          clear hK K
          try simp only [Act.put, nz1, nz2, nz3]
          focus (refine takeN 12 (v := ?_) rfl (by kernel_rfl) ?_ ?_; rotate_left; focus (intro w hSw; clear hSw; go_simp; try with_reducible rfl))
          try simp only [Act.put, nz1, nz2, nz3]
          refine wpAnyH_ready (rs := [13]) (by kernel_rfl) (by simp) ?_
          refine consL 13 rfl (fun K hK => ?_) AllReadyH.nil
          (with_reducible apply s_store hS); (· exact rowT22); (· exact rfl); (· (first | (go_simp; done) | (go_simp; with_reducible rfl))); (· (first | rfl | assumption | (simp [Value.oneCell']; done))); (· (repeat constructor)); (· (repeat constructor)); (· (repeat constructor)); clear hS; intro ws hS
          refine hK.out _ _ (by first | exact (hS.sx0.cons hS (by (repeat constructor))) | exact Sx.le (by assumption) (hS.sx0.cons hS (by (repeat constructor)))) (fun hHeld => ?_)
          clear hK K
          try simp only [Act.put, nz1, nz2, nz3]
          refine wpAnyH_done (by kernel_rfl) ?_ _
          refine NoPanic.normal ?_
        all_goals
          go_wp2_with fail
          replace hS := (hS.forget (x := .box b52 _) (by (repeat constructor))).front (x := .row 51 1 _ _ _) (by (repeat constructor))
          obtain ⟨m2, hS2, hle2, hrd⟩ := hS.settleRow (L := Lay.int .i16) 0 rfl hc50 HB.out
          have hcs := CellsOf.append (HC.out.mono hle2) (CellsOf.one (itL_mk (x := ⟨x, v⟩) HIx.out hrd))
          rw [← HSt.out] at hcs
          have HCs := Lib.hid hcs
          clear hcs
          go_roundw
          case rel => exact ⟨k + 1, q53, c53, _, m2, hlt, by go_num, HLE.out.trans hle2, HCs, hS2⟩
          case measure => simp [intOf]; omega
      · obtain rfl : k = L.length := by omega
        have hkz : ¬ ((L.length : Int) < L.length) := by omega
        have hl := items_len (s := s) (Nat.le_refl L.length)
        go_wp2_with (first
    | ((with_reducible refine' Wl.out ?_; apply k_box (ty := 32) (y := (.tmp 0)) hS); (· exact .mk); clear hS; intro w1 b1 hS)
    | ((with_reducible refine' Wl.out ?_; apply k_alloc (ty := 24) (dst := some 2) hS); (· exact .mk); clear hS; intro w2 b2 hS)
    | ((with_reducible refine' Wl.out ?_; apply k_alloc (ty := 24) (dst := some 6) hS); (· exact .mk); clear hS; intro w6 b6 hS)
    | ((with_reducible refine' Wl.out ?_; apply k_load hS); (· exact .mk))
    | ((with_reducible refine' Wl.out ?_; apply k_loads hS); (· exact .mk))
    | ((with_reducible refine' Wl.out ?_; apply k_store hS); (· exact .mk); clear hS; intro ws hS)
    | ((with_reducible refine' Wl.out ?_; apply k_storeR hS); (· exact .mk); clear hS; intro ws hS)
    | ((with_reducible refine' Wl.out ?_; apply k_stores hS); (· exact .mk); clear hS; intro ws hS))
        refine ret_cell_tmp (n := 3) Tryz.results13 rfl hS (by (repeat constructor)) (by rfl) rowT24 rfl ?_
        obtain ⟨m2, hS2, hle2, hrd⟩ := hS.settleRow' (L := itL) 0 hl rfl HC.out (by rw [hl]; show _ * 32 ≤ _; omega)
        refine ⟨_, m2, rfl, ⟨⟨s.ids.length, s.dim, itemsK s L L.length⟩, q, c, fun h => ?_, ?_, ?_⟩, ⟨hS2.done.kept, hS2.done.has, hS2.done.apart, hS2.done.know, HL0.out.trans (HLE.out.trans hle2), hS2.done.new⟩⟩
        · rw [items_all h HL.out]; rfl
        · rw [hC.out, hl]; rfl
        · show itL.list.rd _ _ _; rw [hl]; exact hrd
  · have hC : Hid (chkS s = 1) := if_neg hd
    have hN := Lib.hid hd
    clear hd
    go_enter Tryz.func13, Tryz.ntmps13
    go_wp2_with (first
    | ((with_reducible refine' Wl.out ?_; apply k_box (ty := 32) (y := (.tmp 0)) hS); (· exact .mk); clear hS; intro w1 b1 hS)
    | ((with_reducible refine' Wl.out ?_; apply k_alloc (ty := 24) (dst := some 2) hS); (· exact .mk); clear hS; intro w2 b2 hS)
    | ((with_reducible refine' Wl.out ?_; apply k_alloc (ty := 24) (dst := some 6) hS); (· exact .mk); clear hS; intro w6 b6 hS)
    | ((with_reducible refine' Wl.out ?_; apply k_load hS); (· exact .mk))
    | ((with_reducible refine' Wl.out ?_; apply k_loads hS); (· exact .mk))
    | ((with_reducible refine' Wl.out ?_; apply k_store hS); (· exact .mk); clear hS; intro ws hS)
    | ((with_reducible refine' Wl.out ?_; apply k_storeR hS); (· exact .mk); clear hS; intro ws hS)
    | ((with_reducible refine' Wl.out ?_; apply k_stores hS); (· exact .mk); clear hS; intro ws hS)
      | (go_at_call 39; refine (live_sl_c m _ hS.inw _ _ _ s A0.out).mono ?_; rintro e' w13 ⟨_, m13, rfl, ⟨L, qL, cL, rfl, hL, hL2, RL⟩, hk⟩; replace hS := hS.grow (grownBy_of_below hk.below); clear hk; rw [hC.out]))
    refine ret_cell_tmp (n := 3) Tryz.results13 rfl hS (by (repeat constructor)) (by rfl) rowT24 rfl ?_
    exact ⟨_, m, rfl, ⟨⟨0, 0, []⟩, none, 0, fun h => absurd h hN.out, by rw [hC.out]; rfl, Lay.nil_rd _ _⟩, hS.done⟩
end Go.Proofs.YtnbhhdncbajkgaaGreatDoor
