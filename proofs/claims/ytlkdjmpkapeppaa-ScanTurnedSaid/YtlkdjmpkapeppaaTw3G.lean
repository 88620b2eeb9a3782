/- The reference's Copy of slots: the copy's vectors may be written. -/
import Derived.Test.YtlkdjmpkapeppaaSl4G
namespace Go.Proofs.Ytlkdjmpkapeppaa
set_option linter.unusedVariables false
set_option linter.unusedSimpArgs false
open Go.RowKit Go.Shelf
set_option maxRecDepth 100000 in
set_option maxHeartbeats 4000000 in
theorem vcopy_c (m : Mem) (w : World) (hm : m.In w) (v : Value) {xs : List Int} (h : vecL.rd m [v] xs) : Calls Try.prog 49 #[v] w (RetRow (Lay.int .i16) 77 w m xs) := by
  have HH := Lib.hid h
  obtain ⟨p, c, rfl, _⟩ := Lay.list_open h
  have hS := St.start hm
  clear h
  go_enter Try.func49, Try.ntmps49
  go_wp2_with (first
    | ((with_reducible refine' Wl.out ?_; apply wl_append_nil (Lay.int .i16) el_vec hS (by decide)); (· exact rfl); (· exact rfl); (· exact HH.out); clear hS; intro w4 q4 c4 news4 hc4 hS))
  go_ret
  exact ⟨q4, c4, news4, rfl, hc4, hS⟩
set_option maxRecDepth 100000 in
set_option maxHeartbeats 4000000 in
theorem copy10_c (m : Mem) (w : World) (hm : m.In w) (q1 q2 : Option Addr) (c1 c2 : Nat) (s : Sl) (h : slL.rd m [.int .i64 s.dim, .slice q1 s.ids.length c1, .slice q2 s.vecs.length c2] s) :
    Calls Try.prog 28 #[.agg #[.int .i64 s.dim, .slice q1 s.ids.length c1, .slice q2 s.vecs.length c2]] w fun e w' => ∃ p d q c cells m', e = .returned (.agg #[.int .i64 s.dim, .slice p s.ids.length d, .slice q s.vecs.length c]) ∧ m.Le m' ∧ Hid (i64L.list.rd m' [.slice p s.ids.length d] s.ids) ∧ Hid (CellsOf vecL m' cells s.vecs) ∧
      St [] w m w' [.row 50 1 (.slice q s.vecs.length c) s.vecs.length cells] m' := by
  have hS := St.start hm
  obtain ⟨_, _, _, _, e, hd, h1, h2⟩ := slL_open h
  cases e
  have HI := Lib.hid h1
  obtain ⟨_, _, e2, _, a2, a3, r2⟩ := Lay.list_open h2
  cases e2
  have HV := Lib.hid r2
  have hml : s.vecs.length ≤ 9223372036854775807 := by simp only [maxLen] at a2; omega
  have hb1 : Hid (s.ids.length * i64L.bytes ≤ 140737488355328) := by obtain ⟨_, _, e, _, _, h3, _⟩ := h1; cases e; exact h3
  have hb2 : Hid (s.vecs.length * vecL.bytes ≤ 140737488355328) := a3
  clear h h1 h2 r2 hd a2 a3
  go_enter Try.func28, Try.ntmps28
  go_wp2_with (first 
    | ((with_reducible refine' Wl.out ?_; apply k_box (ty := 48) (y := (.tmp 0)) hS); (· exact .mk); clear hS; intro w1 b1 hS)
    | ((with_reducible refine' Wl.out ?_; apply k_alloc (ty := 48) (dst := some 2) hS); (· exact .mk); clear hS; intro w2 b2 hS)
    | ((with_reducible refine' Wl.out ?_; apply k_alloc (ty := 48) (dst := some 3) hS); (· exact .mk); clear hS; intro w3 b3 hS)
    | ((with_reducible refine' Wl.out ?_; apply k_load hS); (· exact .mk))
    | ((with_reducible refine' Wl.out ?_; apply k_loads hS); (· exact .mk))
    | ((with_reducible refine' Wl.out ?_; apply k_store hS); (· exact .mk); clear hS; intro ws hS)
    | ((with_reducible refine' Wl.out ?_; apply k_storeR hS); (· exact .mk); clear hS; intro ws hS)
    | ((with_reducible refine' Wl.out ?_; apply k_stores hS); (· exact .mk); clear hS; intro ws hS))
  replace hS := hS.drew
  refine startL (S := Sx _ [(b1, _)]) (by kernel_rfl) (hS.sx0.cons hS (by (repeat constructor))) (fun _ _ _ _ => trivial) (fun hHeld => ?_)
  focus (refine takeN 0 (v := ?_) rfl (by kernel_rfl) ?_ ?_; rotate_left; focus (intro w hSw; clear hSw; go_simp; try with_reducible rfl))
  try simp only [Act.put, nz1, nz2, nz3]
  refine takeN 1 rfl (by kernel_rfl) (yield_load rfl Try.underlying3 rfl rfl (by (first | (apply FindX.box; (· (repeat constructor)); rfl) | exact FindX.mem (by assumption)))) ?_
  try simp only [Act.put, nz1, nz2, nz3]
  focus (refine takeN 2 (v := ?_) rfl (by kernel_rfl) ?_ ?_; rotate_left; focus (intro w hSw; clear hSw; go_simp; try with_reducible rfl))
  try simp only [Act.put, nz1, nz2, nz3]
  refine takeN 3 rfl (by kernel_rfl) (yield_load rfl Try.underlying45 rfl rfl (by (first | (apply FindX.box; (· (repeat constructor)); rfl) | exact FindX.mem (by assumption)))) ?_
  try simp only [Act.put, nz1, nz2, nz3]
  refine wpAnyH_ready (rs := [4, 6]) (by kernel_rfl) (by simp) ?_
  refine consL 4 rfl (fun K hK => ?_) (consL 6 rfl (fun K hK => ?_) AllReadyH.nil)
  rotate_right
  focus
    (with_reducible apply s_alloc hS (.agg #[.int .i64 0, .slice none 0 0, .slice none 0 0]) [.int .i64 0, .slice none 0 0, .slice none 0 0]); (· kernel_rfl); (· rfl); clear hS; intro w3 b3 hS
    refine hK.out _ _ (by first | exact (hS.sx0.cons hS (by (repeat constructor))) | exact Sx.le (by assumption) (hS.sx0.cons hS (by (repeat constructor)))) (fun hHeld => ?_)
    clear hK K
    try simp only [Act.put, nz1, nz2, nz3]
    refine wpAnyH_ready (rs := [4]) (by kernel_rfl) (by simp) ?_
    refine consL 4 rfl (fun K hK => ?_) AllReadyH.nil
    (with_reducible apply s_append_nil i64L el_i64 hS (by decide)); (· exact rfl); (· exact rfl); (· exact HI.out); clear hS; intro w10 q10 c10 news10 hc10 hS
    refine hK.out _ _ (by first | exact (hS.sx0.cons hS (by (repeat constructor))) | exact Sx.le (by assumption) (hS.sx0.cons hS (by (repeat constructor)))) (fun hHeld => ?_)
    clear hK K
    try simp only [Act.put, nz1, nz2, nz3]
    focus (refine takeN 5 (v := ?_) rfl (by kernel_rfl) ?_ ?_; rotate_left; focus (intro w hSw; clear hSw; go_simp; try with_reducible rfl))
    try simp only [Act.put, nz1, nz2, nz3]
    refine wpAnyH_ready (rs := [7]) (by kernel_rfl) (by simp) ?_
    refine consL 7 rfl (fun K hK => ?_) AllReadyH.nil
    (with_reducible apply s_stores hS); (· exact rowT48); (· exact rfl); (· exact rfl); (· exact rfl); (· (first | assumption | (simp [Value.oneCell']; done))); (· (repeat constructor)); (· (repeat constructor)); (· (repeat constructor)); clear hS; intro ws hS
    refine hK.out _ _ (by first | exact (hS.sx0.cons hS (by (repeat constructor))) | exact Sx.le (by assumption) (hS.sx0.cons hS (by (repeat constructor)))) (fun hHeld => ?_)
    clear hK K
    try simp only [Act.put, nz1, nz2, nz3]
    refine wpAnyH_done (by kernel_rfl) ?_ _
    refine NoPanic.normal ?_
  rotate_right
  focus
    (with_reducible apply s_append_nil i64L el_i64 hS (by decide)); (· exact rfl); (· exact rfl); (· exact HI.out); clear hS; intro w10 q10 c10 news10 hc10 hS
    refine hK.out _ _ (by first | exact (hS.sx0.cons hS (by (repeat constructor))) | exact Sx.le (by assumption) (hS.sx0.cons hS (by (repeat constructor)))) (fun hHeld => ?_)
    clear hK K
    try simp only [Act.put, nz1, nz2, nz3]
    focus (refine takeN 5 (v := ?_) rfl (by kernel_rfl) ?_ ?_; rotate_left; focus (intro w hSw; clear hSw; go_simp; try with_reducible rfl))
    try simp only [Act.put, nz1, nz2, nz3]
    refine wpAnyH_ready (rs := [6]) (by kernel_rfl) (by simp) ?_
    refine consL 6 rfl (fun K hK => ?_) AllReadyH.nil
    (with_reducible apply s_alloc hS (.agg #[.int .i64 0, .slice none 0 0, .slice none 0 0]) [.int .i64 0, .slice none 0 0, .slice none 0 0]); (· kernel_rfl); (· rfl); clear hS; intro w3 b3 hS
    refine hK.out _ _ (by first | exact (hS.sx0.cons hS (by (repeat constructor))) | exact Sx.le (by assumption) (hS.sx0.cons hS (by (repeat constructor)))) (fun hHeld => ?_)
    clear hK K
    try simp only [Act.put, nz1, nz2, nz3]
    refine wpAnyH_ready (rs := [7]) (by kernel_rfl) (by simp) ?_
    refine consL 7 rfl (fun K hK => ?_) AllReadyH.nil
    (with_reducible apply s_stores hS); (· exact rowT48); (· exact rfl); (· exact rfl); (· exact rfl); (· (first | assumption | (simp [Value.oneCell']; done))); (· (repeat constructor)); (· (repeat constructor)); (· (repeat constructor)); clear hS; intro ws hS
    refine hK.out _ _ (by first | exact (hS.sx0.cons hS (by (repeat constructor))) | exact Sx.le (by assumption) (hS.sx0.cons hS (by (repeat constructor)))) (fun hHeld => ?_)
    clear hK K
    try simp only [Act.put, nz1, nz2, nz3]
    refine wpAnyH_done (by kernel_rfl) ?_ _
    refine NoPanic.normal ?_
  all_goals
    replace hS := ((hS.front (x := .box b2 _) (by (repeat constructor))).front (x := .box b3 _) (by (repeat constructor))).front (x := .row 2 1 _ _ _) (by (repeat constructor))
    obtain ⟨e8, hin10⟩ := ints_of hc10
    subst e8
    have HIn := Lib.hid hin10
    clear hc10 hin10
    go_wp2_with (first 
    | ((with_reducible refine' Wl.out ?_; apply k_box (ty := 48) (y := (.tmp 0)) hS); (· exact .mk); clear hS; intro w1 b1 hS)
    | ((with_reducible refine' Wl.out ?_; apply k_alloc (ty := 48) (dst := some 2) hS); (· exact .mk); clear hS; intro w2 b2 hS)
    | ((with_reducible refine' Wl.out ?_; apply k_alloc (ty := 48) (dst := some 3) hS); (· exact .mk); clear hS; intro w3 b3 hS)
    | ((with_reducible refine' Wl.out ?_; apply k_load hS); (· exact .mk))
    | ((with_reducible refine' Wl.out ?_; apply k_loads hS); (· exact .mk))
    | ((with_reducible refine' Wl.out ?_; apply k_store hS); (· exact .mk); clear hS; intro ws hS)
    | ((with_reducible refine' Wl.out ?_; apply k_storeR hS); (· exact .mk); clear hS; intro ws hS)
    | ((with_reducible refine' Wl.out ?_; apply k_stores hS); (· exact .mk); clear hS; intro ws hS))
    go_loopw [15] (fun vi wr => ∃ (k : Nat) (vq : Option Addr) (cq : Nat) (cells : List Value) (m' : Mem), k ≤ s.vecs.length ∧ vi = .int .i64 k ∧ Hid (m.Le m') ∧ Hid (CellsOf vecL m' cells (s.vecs.take k)) ∧ St [] w m wr [.row 50 1 (.slice vq k cq) k cells, .row 2 1 (.slice q10 s.ids.length c10) s.ids.length (s.ids.map (.int .i64)), .box b3 [.int .i64 s.dim, .slice q10 s.ids.length c10, .slice vq k cq], .box b2 [.int .i64 0, .slice none 0 0, .slice none 0 0], .box b1 [.int .i64 s.dim, .slice q1 s.ids.length c1, .slice q2 s.vecs.length c2]] m') (fun vi _ => s.vecs.length - (intOf vi).toNat)
    case atStart => exact ⟨0, none, 0, [], m, Nat.zero_le _, rfl, Mem.Le.refl _, CellsOf.nil _ _, hS.nilRow _ _⟩
    case round =>
      clear hS
      obtain ⟨k, vq, cq, cells, m', hk, rfl, hle, hcells, hS⟩ := hrel
      by_cases hlt : k < s.vecs.length
      · obtain ⟨bv, ov, q, c, rfl, hcv, hrd⟩ := (HV.out.mono hle.out).listAt k hlt
        have HX := Lib.hid hrd
        have HB : Hid ((k + 1) * 24 ≤ 140737488355328) := by have := hb2.out; simp only [Lay.list] at this; show _ ≤ _; omega
        have HL : Hid ((s.vecs.getD k []).length * (Lay.int .i16).bytes ≤ 140737488355328) := by obtain ⟨_, _, e, _, _, h3, _⟩ := HX.out; cases e; exact h3
        have hkz : (k : Int) < s.vecs.length := by omega
        have hsn : s.vecs.take (k + 1) = s.vecs.take k ++ [s.vecs.getD k []] := by
          rw [List.take_succ_eq_append_getElem hlt]; simp [List.getD, hlt]
        have HSn := Lib.hid hsn
        clear hrd hsn
        generalize s.vecs.getD k [] = vk at *
        go_wp2_with (first 
    | ((with_reducible refine' Wl.out ?_; apply k_box (ty := 48) (y := (.tmp 0)) hS); (· exact .mk); clear hS; intro w1 b1 hS)
    | ((with_reducible refine' Wl.out ?_; apply k_alloc (ty := 48) (dst := some 2) hS); (· exact .mk); clear hS; intro w2 b2 hS)
    | ((with_reducible refine' Wl.out ?_; apply k_alloc (ty := 48) (dst := some 3) hS); (· exact .mk); clear hS; intro w3 b3 hS)
    | ((with_reducible refine' Wl.out ?_; apply k_load hS); (· exact .mk))
    | ((with_reducible refine' Wl.out ?_; apply k_loads hS); (· exact .mk))
    | ((with_reducible refine' Wl.out ?_; apply k_store hS); (· exact .mk); clear hS; intro ws hS)
    | ((with_reducible refine' Wl.out ?_; apply k_storeR hS); (· exact .mk); clear hS; intro ws hS)
    | ((with_reducible refine' Wl.out ?_; apply k_stores hS); (· exact .mk); clear hS; intro ws hS))
        replace hS := hS.drew
        refine startL (S := Sx _ []) (by kernel_rfl) hS.sx0 (fun _ _ _ _ => trivial) (fun hHeld => ?_)
        focus (refine takeN 0 (v := ?_) rfl (by kernel_rfl) ?_ ?_; rotate_left; focus (intro w hSw; clear hSw; go_simp; try with_reducible rfl))
        try simp only [Act.put, nz1, nz2, nz3]
        focus (refine takeN 2 (v := ?_) rfl (by kernel_rfl) ?_ ?_; rotate_left; focus (intro w hSw; clear hSw; go_simp; try with_reducible rfl))
        try simp only [Act.put, nz1, nz2, nz3]
        refine wpAnyH_ready (rs := [1, 3]) (by kernel_rfl) (by simp) ?_
        refine consL 1 rfl (fun K hK => ?_) (consL 3 rfl (fun K hK => ?_) AllReadyH.nil)
        rotate_right
        focus
          rw [if_pos (by rfl)]; go_simp; refine (vcopy_c _ _ hS.inw _ HX.out).mono ?_; rintro e' w22 ⟨q22, c22, news22, rfl, hc22, hk22⟩; replace hS := hS.callOwn hk22; clear hk22; go_wp2_with fail
          refine hK.out _ _ (by first | exact hS.sx0 | exact Sx.le (by assumption) hS.sx0) (fun hHeld => ?_)
          clear hK K
          try simp only [Act.put, nz1, nz2, nz3]
          refine wpAnyH_ready (rs := [1, 4]) (by kernel_rfl) (by simp) ?_
          refine consL 1 rfl (fun K hK => ?_) (consL 4 rfl (fun K hK => ?_) AllReadyH.nil)
          rotate_right
          focus
            (with_reducible apply s_lit el_vecs hS (cs := [.slice q22 vk.length c22])); (· decide); (· decide); (· kernel_rfl); clear hS; intro w23 b23 hS
            refine hK.out _ _ (by first | exact hS.sx0 | exact Sx.le (by assumption) hS.sx0) (fun hHeld => ?_)
            clear hK K
            try simp only [Act.put, nz1, nz2, nz3]
            refine wpAnyH_ready (rs := [1]) (by kernel_rfl) (by simp) ?_
            refine consL 1 rfl (fun K hK => ?_) AllReadyH.nil
            (with_reducible apply s_load hS); (· exact Try.underlying46); (· exact rfl); (· exact rfl); (· (first | (apply Find.box; (· (repeat constructor)); rfl) | exact Find.mem (by assumption) | (apply Find.row; (· (repeat constructor)); assumption)))
            refine hK.out _ _ (by first | exact hS.sx0 | exact Sx.le (by assumption) hS.sx0) (fun hHeld => ?_)
            clear hK K
            try simp only [Act.put, nz1, nz2, nz3]
            refine wpAnyH_ready (rs := [5]) (by kernel_rfl) (by simp) ?_
            refine consL 5 rfl (fun K hK => ?_) AllReadyH.nil
            (with_reducible apply s_appendB el_vecs hS (by decide)); (· exact rfl); (· (repeat constructor)); (· exact rfl); (· (repeat constructor)); (· rfl); (· simp [Value.oneCell']); (· exact HB.out); clear hS; intro w24 q24 c24 hS
            refine hK.out _ _ (by first | exact hS.sx0 | exact Sx.le (by assumption) hS.sx0) (fun hHeld => ?_)
            clear hK K
            try simp only [Act.put, nz1, nz2, nz3]
            focus (refine takeN 6 (v := ?_) rfl (by kernel_rfl) ?_ ?_; rotate_left; focus (intro w hSw; clear hSw; go_simp; try with_reducible rfl))
            try simp only [Act.put, nz1, nz2, nz3]
            refine wpAnyH_ready (rs := [7]) (by kernel_rfl) (by simp) ?_
            refine consL 7 rfl (fun K hK => ?_) AllReadyH.nil
            (with_reducible apply s_store hS); (· exact rowT46); (· exact rfl); (· (first | (go_simp; done) | (go_simp; with_reducible rfl))); (· (first | rfl | assumption | (simp [Value.oneCell']; done))); (· (repeat constructor)); (· (repeat constructor)); (· (repeat constructor)); clear hS; intro ws hS
            refine hK.out _ _ (by first | exact hS.sx0 | exact Sx.le (by assumption) hS.sx0) (fun hHeld => ?_)
            clear hK K
            try simp only [Act.put, nz1, nz2, nz3]
            refine wpAnyH_done (by kernel_rfl) ?_ _
            refine NoPanic.normal ?_
          rotate_right
          focus
            (with_reducible apply s_load hS); (· exact Try.underlying46); (· exact rfl); (· exact rfl); (· (first | (apply Find.box; (· (repeat constructor)); rfl) | exact Find.mem (by assumption) | (apply Find.row; (· (repeat constructor)); assumption)))
            refine hK.out _ _ (by first | exact hS.sx0 | exact Sx.le (by assumption) hS.sx0) (fun hHeld => ?_)
            clear hK K
            try simp only [Act.put, nz1, nz2, nz3]
            refine wpAnyH_ready (rs := [4]) (by kernel_rfl) (by simp) ?_
            refine consL 4 rfl (fun K hK => ?_) AllReadyH.nil
            (with_reducible apply s_lit el_vecs hS (cs := [.slice q22 vk.length c22])); (· decide); (· decide); (· kernel_rfl); clear hS; intro w23 b23 hS
            refine hK.out _ _ (by first | exact hS.sx0 | exact Sx.le (by assumption) hS.sx0) (fun hHeld => ?_)
            clear hK K
            try simp only [Act.put, nz1, nz2, nz3]
            refine wpAnyH_ready (rs := [5]) (by kernel_rfl) (by simp) ?_
            refine consL 5 rfl (fun K hK => ?_) AllReadyH.nil
            (with_reducible apply s_appendB el_vecs hS (by decide)); (· exact rfl); (· (repeat constructor)); (· exact rfl); (· (repeat constructor)); (· rfl); (· simp [Value.oneCell']); (· exact HB.out); clear hS; intro w24 q24 c24 hS
            refine hK.out _ _ (by first | exact hS.sx0 | exact Sx.le (by assumption) hS.sx0) (fun hHeld => ?_)
            clear hK K
            try simp only [Act.put, nz1, nz2, nz3]
            focus (refine takeN 6 (v := ?_) rfl (by kernel_rfl) ?_ ?_; rotate_left; focus (intro w hSw; clear hSw; go_simp; try with_reducible rfl))
            try simp only [Act.put, nz1, nz2, nz3]
            refine wpAnyH_ready (rs := [7]) (by kernel_rfl) (by simp) ?_
            refine consL 7 rfl (fun K hK => ?_) AllReadyH.nil
            (with_reducible apply s_store hS); (· exact rowT46); (· exact rfl); (· (first | (go_simp; done) | (go_simp; with_reducible rfl))); (· (first | rfl | assumption | (simp [Value.oneCell']; done))); (· (repeat constructor)); (· (repeat constructor)); (· (repeat constructor)); clear hS; intro ws hS
            refine hK.out _ _ (by first | exact hS.sx0 | exact Sx.le (by assumption) hS.sx0) (fun hHeld => ?_)
            clear hK K
            try simp only [Act.put, nz1, nz2, nz3]
            refine wpAnyH_done (by kernel_rfl) ?_ _
            refine NoPanic.normal ?_
        rotate_right
        focus
          (with_reducible apply s_load hS); (· exact Try.underlying46); (· exact rfl); (· exact rfl); (· (first | (apply Find.box; (· (repeat constructor)); rfl) | exact Find.mem (by assumption) | (apply Find.row; (· (repeat constructor)); assumption)))
          refine hK.out _ _ (by first | exact hS.sx0 | exact Sx.le (by assumption) hS.sx0) (fun hHeld => ?_)
          clear hK K
          try simp only [Act.put, nz1, nz2, nz3]
          refine wpAnyH_ready (rs := [3]) (by kernel_rfl) (by simp) ?_
          refine consL 3 rfl (fun K hK => ?_) AllReadyH.nil
          rw [if_pos (by rfl)]; go_simp; refine (vcopy_c _ _ hS.inw _ HX.out).mono ?_; rintro e' w22 ⟨q22, c22, news22, rfl, hc22, hk22⟩; replace hS := hS.callOwn hk22; clear hk22; go_wp2_with fail
          refine hK.out _ _ (by first | exact hS.sx0 | exact Sx.le (by assumption) hS.sx0) (fun hHeld => ?_)
          clear hK K
          try simp only [Act.put, nz1, nz2, nz3]
          refine wpAnyH_ready (rs := [4]) (by kernel_rfl) (by simp) ?_
          refine consL 4 rfl (fun K hK => ?_) AllReadyH.nil
          (with_reducible apply s_lit el_vecs hS (cs := [.slice q22 vk.length c22])); (· decide); (· decide); (· kernel_rfl); clear hS; intro w23 b23 hS
          refine hK.out _ _ (by first | exact hS.sx0 | exact Sx.le (by assumption) hS.sx0) (fun hHeld => ?_)
          clear hK K
          try simp only [Act.put, nz1, nz2, nz3]
          refine wpAnyH_ready (rs := [5]) (by kernel_rfl) (by simp) ?_
          refine consL 5 rfl (fun K hK => ?_) AllReadyH.nil
          (with_reducible apply s_appendB el_vecs hS (by decide)); (· exact rfl); (· (repeat constructor)); (· exact rfl); (· (repeat constructor)); (· rfl); (· simp [Value.oneCell']); (· exact HB.out); clear hS; intro w24 q24 c24 hS
          refine hK.out _ _ (by first | exact hS.sx0 | exact Sx.le (by assumption) hS.sx0) (fun hHeld => ?_)
          clear hK K
          try simp only [Act.put, nz1, nz2, nz3]
          focus (refine takeN 6 (v := ?_) rfl (by kernel_rfl) ?_ ?_; rotate_left; focus (intro w hSw; clear hSw; go_simp; try with_reducible rfl))
          try simp only [Act.put, nz1, nz2, nz3]
          refine wpAnyH_ready (rs := [7]) (by kernel_rfl) (by simp) ?_
          refine consL 7 rfl (fun K hK => ?_) AllReadyH.nil
          (with_reducible apply s_store hS); (· exact rowT46); (· exact rfl); (· (first | (go_simp; done) | (go_simp; with_reducible rfl))); (· (first | rfl | assumption | (simp [Value.oneCell']; done))); (· (repeat constructor)); (· (repeat constructor)); (· (repeat constructor)); clear hS; intro ws hS
          refine hK.out _ _ (by first | exact hS.sx0 | exact Sx.le (by assumption) hS.sx0) (fun hHeld => ?_)
          clear hK K
          try simp only [Act.put, nz1, nz2, nz3]
          refine wpAnyH_done (by kernel_rfl) ?_ _
          refine NoPanic.normal ?_
        all_goals
          go_wp2_with (first 
    | ((with_reducible refine' Wl.out ?_; apply k_box (ty := 48) (y := (.tmp 0)) hS); (· exact .mk); clear hS; intro w1 b1 hS)
    | ((with_reducible refine' Wl.out ?_; apply k_alloc (ty := 48) (dst := some 2) hS); (· exact .mk); clear hS; intro w2 b2 hS)
    | ((with_reducible refine' Wl.out ?_; apply k_alloc (ty := 48) (dst := some 3) hS); (· exact .mk); clear hS; intro w3 b3 hS)
    | ((with_reducible refine' Wl.out ?_; apply k_load hS); (· exact .mk))
    | ((with_reducible refine' Wl.out ?_; apply k_loads hS); (· exact .mk))
    | ((with_reducible refine' Wl.out ?_; apply k_store hS); (· exact .mk); clear hS; intro ws hS)
    | ((with_reducible refine' Wl.out ?_; apply k_storeR hS); (· exact .mk); clear hS; intro ws hS)
    | ((with_reducible refine' Wl.out ?_; apply k_stores hS); (· exact .mk); clear hS; intro ws hS))
          go_roundw
          case rel =>
            replace hS := hS.forget (x := .box b23 _) (by (repeat constructor))
            obtain ⟨m2, hS2, hle2, hrd⟩ := (hS.front (x := .row 77 1 (.slice q22 _ _) _ _) (by (repeat constructor))).settleRow (L := Lay.int .i16) 0 rfl hc22 HL.out
            replace hS2 := ((((hS2.front (x := .box b1 _) (by (repeat constructor))).front (x := .box b2 _) (by (repeat constructor))).front (x := .box b3 _) (by (repeat constructor))).front (x := .row 2 1 _ _ _) (by (repeat constructor))).front (x := .row 50 1 _ _ _) (by (repeat constructor))
            exact ⟨k + 1, q24, c24, _, m2, hlt, by go_num, hle.out.trans hle2, by rw [HSn.out]; exact (hcells.out.mono hle2).snoc hrd, hS2⟩
          case measure => simp [intOf]; omega
      · obtain rfl : k = s.vecs.length := by omega
        go_wp2_with (first 
    | ((with_reducible refine' Wl.out ?_; apply k_box (ty := 48) (y := (.tmp 0)) hS); (· exact .mk); clear hS; intro w1 b1 hS)
    | ((with_reducible refine' Wl.out ?_; apply k_alloc (ty := 48) (dst := some 2) hS); (· exact .mk); clear hS; intro w2 b2 hS)
    | ((with_reducible refine' Wl.out ?_; apply k_alloc (ty := 48) (dst := some 3) hS); (· exact .mk); clear hS; intro w3 b3 hS)
    | ((with_reducible refine' Wl.out ?_; apply k_load hS); (· exact .mk))
    | ((with_reducible refine' Wl.out ?_; apply k_loads hS); (· exact .mk))
    | ((with_reducible refine' Wl.out ?_; apply k_store hS); (· exact .mk); clear hS; intro ws hS)
    | ((with_reducible refine' Wl.out ?_; apply k_storeR hS); (· exact .mk); clear hS; intro ws hS)
    | ((with_reducible refine' Wl.out ?_; apply k_stores hS); (· exact .mk); clear hS; intro ws hS))
        refine ret_cell (n := 3) rfl rfl hS (by (repeat constructor)) (by rfl) slRow rfl ?_
        have hc := hcells.out
        rw [List.take_length] at hc
        replace hS := (((hS.forget (x := .box b3 _) (by (repeat constructor))).forget (x := .box b2 _) (by (repeat constructor))).forget (x := .box b1 _) (by (repeat constructor))).front (x := .row 2 1 _ _ _) (by (repeat constructor))
        obtain ⟨m3, hS3, hle3, hrd3⟩ := St.settleRow' (L := i64L) (xs := s.ids) hS 0 rfl rfl (of_ints HIn.out) hb1.out
        exact ⟨_, _, _, _, _, m3, rfl, hle.out.trans hle3, hrd3, hc.mono hle3, hS3⟩
end Go.Proofs.Ytlkdjmpkapeppaa
