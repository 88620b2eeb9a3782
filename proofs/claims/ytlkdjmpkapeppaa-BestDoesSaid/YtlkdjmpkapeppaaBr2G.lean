/- The reference's Order of hits. -/
import Derived.Test.YtlkdjmpkapeppaaBr1G
import Derived.Test.YtlkdjmpkapeppaaApHG
namespace Go.Proofs.Ytlkdjmpkapeppaa
set_option linter.unusedVariables false
set_option linter.unusedSimpArgs false
open Go.RowKit Go.Shelf
theorem rd_drop {m : Mem} {g len c : Nat} {xs : List Hit} (h : hitL.list.rd m [.slice (some ⟨g, 0, none⟩) len c] xs) (a : Nat) (ha : a ≤ len) : hitL.list.rd m [.slice (some ⟨g, a * 2, none⟩) (len - a) (c - a)] (xs.drop a) := by
  have hl : xs.length = len := by obtain ⟨_, _, e, _⟩ := h; cases e; rfl
  have := rdL_part h a len ha (Nat.le_refl _)
  rw [List.take_of_length_le (by omega), Nat.zero_add] at this
  exact this
theorem order_ins {out : List Hit} {h : Hit} {a : Nat} (ho : Asc out) (h1 : ∀ x ∈ out.take a, ¬ h.lt x) (h2 : a = out.length ∨ (a < out.length ∧ h.lt (out.getD a hz))) : Asc (out.take a ++ [h] ++ out.drop a) := by
  have hs : Asc (out.take a ++ out.drop a) := by rw [List.take_append_drop]; exact ho
  obtain ⟨s1, s2, s3⟩ := List.pairwise_append.1 hs
  have hd : ∀ y ∈ out.drop a, ¬ y.lt h := by
    intro y hy
    rcases h2 with h2 | ⟨h2, h3⟩
    · rw [h2, List.drop_length] at hy; simp at hy
    · rw [List.drop_eq_getElem_cons h2] at hy s2
      obtain ⟨k1, _⟩ := List.pairwise_cons.1 s2
      have e : out.getD a hz = out[a] := by simp [List.getD, h2]
      rw [e] at h3
      rcases List.mem_cons.1 hy with rfl | hy
      · exact Hit.asymm h3
      · exact fun hh => k1 y hy (Hit.trans hh h3)
  refine List.pairwise_append.2 ⟨List.pairwise_append.2 ⟨s1, by simp, fun x hx y hy => ?_⟩, s2, fun x hx y hy => ?_⟩
  · simp at hy; subst hy; exact h1 x hx
  · rcases List.mem_append.1 hx with hx | hx
    · exact s3 x hx y hy
    · simp at hx; subst hx; exact hd y hy
theorem order_step {xs out : List Hit} {k a : Nat} (ho : out = srt (xs.take k)) (hk : k < xs.length) (h1 : ∀ x ∈ out.take a, ¬ (xs[k]).lt x) (h2 : a = out.length ∨ (a < out.length ∧ (xs[k]).lt (out.getD a hz))) :
    out.take a ++ [xs[k]] ++ out.drop a = srt (xs.take (k + 1)) := by
  refine srt_eq (order_ins (by rw [ho]; exact srt_asc _) h1 h2) ?_
  have p1 : (out.take a ++ [xs[k]] ++ out.drop a).Perm (xs[k] :: out) := by
    have : (out.take a ++ [xs[k]]).Perm (xs[k] :: out.take a) := List.perm_append_comm
    refine (List.Perm.append_right _ this).trans ?_
    rw [List.cons_append, List.take_append_drop]
  rw [List.take_succ_eq_append_getElem hk]
  refine p1.trans ((List.Perm.cons _ (show out.Perm (xs.take k) by rw [ho]; exact srt_perm _)).trans ?_)
  exact (List.perm_append_comm (l₁ := [xs[k]]) (l₂ := xs.take k))
set_option maxRecDepth 100000 in
set_option maxHeartbeats 8000000 in
theorem order16_c (m : Mem) (w : World) (hm : m.In w) (v : Value) (xs : List Hit) (hr : hitL.list.rd m [v] xs) (hx : xs.length ≤ 1000) :
    Calls Try.prog 21 #[v] w (Ret w m fun v m' => ∃ q c, v = .slice q (srt xs).length c ∧ hitL.list.rd m' [.slice q (srt xs).length c] (srt xs)) := by
  have hS := St.start hm
  obtain ⟨q, c, rfl, h1, h2, h3, hrow⟩ := Lay.list_open hr
  have HR := Lib.hid hrow
  clear hr h1 h2 h3 hrow
  go_enter Try.func21, Try.ntmps21
  go_wp2_with fail
  go_loopw [3, 10] (fun v3 i wr => ∃ (k : Nat) (out : List Hit) (q3 : Option Addr) (c3 : Nat) (m' : Mem), k ≤ xs.length ∧ v3 = .slice q3 out.length c3 ∧ i = .int .i64 k ∧ Hid (out = srt (xs.take k)) ∧ ((k = 0 ∧ q3 = none ∧ c3 = 0 ∧ out = []) ∨ (0 < k ∧ ∃ g, q3 = some ⟨g, 0, none⟩)) ∧ Hid (hitL.list.rd m' [.slice q3 out.length c3] out) ∧ St [] w m wr [] m') (fun _ i _ => xs.length - (intOf i).toNat)
  case atStart => exact ⟨0, [], none, 0, m, Nat.zero_le _, rfl, rfl, rfl, .inl ⟨rfl, rfl, rfl, rfl⟩, Lay.nil_rd _ _, hS⟩
  case round =>
    clear hS
    obtain ⟨k, out, q3, c3, m', hk, rfl, rfl, hO, hw, A1, hS⟩ := hrel
    by_cases hlt : k < xs.length
    · have hk1 : (k : Int) < xs.length := by omega
      obtain ⟨bq, oq, cs, rfl, hcs, hcell⟩ := HR.out.get k hlt
      obtain ⟨rfl, i1, i2⟩ := hitL_open hcs
      have hcx : ∀ j v, [Value.int .i64 xs[k].dist, .int .i64 xs[k].id][j]? = some v → m' ⟨bq, oq + k * 2 + j, none⟩ = some v := fun j v hj => hS.le _ _ (hcell j v hj)
      have hstep : Hid (∀ a, (∀ y ∈ out.take a, ¬ (xs[k]).lt y) → (a = out.length ∨ (a < out.length ∧ (xs[k]).lt (out.getD a hz))) → out.take a ++ [xs[k]] ++ out.drop a = srt (xs.take (k + 1))) := fun a h1 h2 => order_step hO.out hlt h1 h2
      have IX := Lib.hid (And.intro i1 i2)
      have hol : out.length = k := by rw [hO.out, srt_length, List.length_take]; omega
      clear hcs hcell i1 i2
      rcases hw with ⟨rfl, rfl, rfl, rfl⟩ | ⟨hk0, g, rfl⟩
      · clear hol
        generalize xs[0] = x at *
        go_wp2_with (first 
    | ((with_reducible refine' Wl.out ?_; apply k_alloc (ty := 30) (dst := some 5) hS); (· exact .mk); clear hS; intro w5 b5 hS)
    | ((with_reducible refine' Wl.out ?_; apply k_loads hS); (· exact .mk))
    | go_skip
    | ((with_reducible refine' Wl.out ?_; apply kg_loads hS); iterate 2 (· exact .mk))
    | ((with_reducible refine' Wl.out ?_; refine' wg_case ?_ ?_) <;> (intro hgW; (try (have hg2 := hgW; simp [go_sem] at hg2)); (first | (exfalso; assumption) | ((with_reducible refine' Wl.out ?_; apply k_no hgW)) | ((with_reducible refine' Wl.out ?_; apply kg_loads hS ⟨hgW⟩); (· exact .mk))); clear hgW))
    | ((with_reducible refine' Wl.out ?_; apply k_stores hS); (· exact .mk); clear hS; intro ws hS))
        go_loopw [6] (fun j wr => j = .int .i64 0 ∧ St [] w m wr [.box b5 [.int .i64 x.dist, .int .i64 x.id]] m') (fun _ _ => 0)
        case atStart => exact ⟨rfl, hS⟩
        case round =>
          clear hS
          obtain ⟨rfl, hS⟩ := hrel
          go_wp2_with fail
          replace hS := hS.drew
          refine startL (S := Sx _ [(b5, _)]) (by kernel_rfl) (hS.sx0.cons hS (by (repeat constructor))) (fun _ _ _ _ => trivial) (fun hHeld => ?_)
          focus (refine takeN 0 (v := ?_) rfl (by kernel_rfl) ?_ ?_; rotate_left; focus (intro w hSw; clear hSw; go_simp; try with_reducible rfl))
          try simp only [Act.put, nz1, nz2, nz3]
          focus (refine takeN 1 (v := ?_) rfl (by kernel_rfl) ?_ ?_; rotate_left; focus (intro w hSw; clear hSw; go_simp; try with_reducible rfl))
          try simp only [Act.put, nz1, nz2, nz3]
          focus (refine takeN 2 (v := ?_) rfl (by kernel_rfl) ?_ ?_; rotate_left; focus (intro w hSw; clear hSw; go_simp; try with_reducible rfl))
          try simp only [Act.put, nz1, nz2, nz3]
          focus (refine takeN 3 (v := ?_) rfl (by kernel_rfl) ?_ ?_; rotate_left; focus (intro w hSw; clear hSw; go_simp; try with_reducible rfl))
          try simp only [Act.put, nz1, nz2, nz3]
          focus (refine takeN 4 (v := ?_) rfl (by kernel_rfl) ?_ ?_; rotate_left; focus (intro w hSw; clear hSw; go_simp; try with_reducible rfl))
          try simp only [Act.put, nz1, nz2, nz3]
          first | (focus (refine' takeG 5 rfl (by kernel_rfl) ?_ ?_ ?_; rotate_left; (focus (first | rfl | (go_simp <;> fail))); (focus (intro w hSw; refine' yield_loads rfl rowT30 rfl ?_ w hSw; (first | (apply FindsX.box; (· (repeat constructor)); (· (repeat constructor)); done) | (refine FindsX.mem (by assumption) ?_; first | rfl | assumption | (simp; done))))))) | (refine skipG 5 rfl (by kernel_rfl) ?_ ?_; (focus (first | rfl | (go_simp <;> fail))))
          try simp only [Act.put, nz1, nz2, nz3]
          first | (focus (refine takeG 6 (v := ?_) rfl (by kernel_rfl) ?_ ?_ ?_; rotate_left; (focus (first | rfl | (go_simp <;> fail))); (focus (intro w hSw; clear hSw; go_simp; try with_reducible rfl)))) | (refine skipG 6 rfl (by kernel_rfl) ?_ ?_; (focus (first | rfl | (go_simp <;> fail))))
          try simp only [Act.put, nz1, nz2, nz3]
          first | (focus (refine takeG 7 (v := ?_) rfl (by kernel_rfl) ?_ ?_ ?_; rotate_left; (focus (first | rfl | (go_simp <;> fail))); (focus (intro w hSw; clear hSw; go_simp; try with_reducible rfl)))) | (refine skipG 7 rfl (by kernel_rfl) ?_ ?_; (focus (first | rfl | (go_simp <;> fail))))
          try simp only [Act.put, nz1, nz2, nz3]
          first | (focus (refine takeG 8 (v := ?_) rfl (by kernel_rfl) ?_ ?_ ?_; rotate_left; (focus (first | rfl | (go_simp <;> fail))); (focus (intro w hSw; clear hSw; go_simp; try with_reducible rfl)))) | (refine skipG 8 rfl (by kernel_rfl) ?_ ?_; (focus (first | rfl | (go_simp <;> fail))))
          try simp only [Act.put, nz1, nz2, nz3]
          first | (focus (refine' takeG 9 rfl (by kernel_rfl) ?_ ?_ ?_; rotate_left; (focus (first | rfl | (go_simp <;> fail))); (focus (intro w hSw; refine' yield_loads rfl rowT30 rfl ?_ w hSw; (first | (apply FindsX.box; (· (repeat constructor)); (· (repeat constructor)); done) | (refine FindsX.mem (by assumption) ?_; first | rfl | assumption | (simp; done))))))) | (refine skipG 9 rfl (by kernel_rfl) ?_ ?_; (focus (first | rfl | (go_simp <;> fail))))
          try simp only [Act.put, nz1, nz2, nz3]
          refine wpAnyH_ready (rs := [10]) (by kernel_rfl) (by simp) ?_
          refine consL 10 rfl (fun K hK => ?_) AllReadyH.nil
          rw [if_neg (by exact Bool.false_ne_true)]
          refine hK.out _ _ (by first | exact (hS.sx0.cons hS (by (repeat constructor))) | exact Sx.le (by assumption) (hS.sx0.cons hS (by (repeat constructor)))) (fun hHeld => ?_)
          clear hK K
          try simp only [Act.put, nz1, nz2, nz3]
          first | (focus (refine takeG 11 (v := ?_) rfl (by kernel_rfl) ?_ ?_ ?_; rotate_left; (focus (first | rfl | (go_simp <;> fail))); (focus (intro w hSw; clear hSw; go_simp; try with_reducible rfl)))) | (refine skipG 11 rfl (by kernel_rfl) ?_ ?_; (focus (first | rfl | (go_simp <;> fail))))
          try simp only [Act.put, nz1, nz2, nz3]
          focus (refine takeN 12 (v := ?_) rfl (by kernel_rfl) ?_ ?_; rotate_left; focus (intro w hSw; clear hSw; go_simp; try with_reducible rfl))
          try simp only [Act.put, nz1, nz2, nz3]
          refine wpAnyH_done (by kernel_rfl) ?_ _
          refine NoPanic.normal ?_
          all_goals
            go_wp2_with (first 
    | ((with_reducible refine' Wl.out ?_; apply k_alloc (ty := 30) (dst := some 5) hS); (· exact .mk); clear hS; intro w5 b5 hS)
    | ((with_reducible refine' Wl.out ?_; apply k_loads hS); (· exact .mk))
    | go_skip
    | ((with_reducible refine' Wl.out ?_; apply kg_loads hS); iterate 2 (· exact .mk))
    | ((with_reducible refine' Wl.out ?_; refine' wg_case ?_ ?_) <;> (intro hgW; (try (have hg2 := hgW; simp [go_sem] at hg2)); (first | (exfalso; assumption) | ((with_reducible refine' Wl.out ?_; apply k_no hgW)) | ((with_reducible refine' Wl.out ?_; apply kg_loads hS ⟨hgW⟩); (· exact .mk))); clear hgW))
    | ((with_reducible refine' Wl.out ?_; apply k_stores hS); (· exact .mk); clear hS; intro ws hS)
              | ((with_reducible refine' Wl.out ?_; apply wl_appH_nil hS); (· exact rfl); (· exact rfl); (· exact Lay.nil_rd _ _); (· exact rfl); clear hS; intro w32 q32 c32 hS; simp only [List.length_nil] at hS)
              | ((with_reducible refine' Wl.out ?_; apply wl_lit el_hit (cs := [.int .i64 x.dist, .int .i64 x.id]) hS); (· decide); (· decide); (· kernel_rfl); clear hS; intro w35 b35 hS)
              | ((with_reducible refine' Wl.out ?_; apply wl_appH1 (d := x.dist) (i := x.id) hS); (· exact rfl); (· (repeat constructor)); (· exact rfl); (· (repeat constructor)); (· omega); clear hS; intro w36 q36 c36 hS; simp only [Nat.zero_add] at hS)
              | ((with_reducible refine' Wl.out ?_; apply wl_appH hS); (· exact rfl); (· (repeat constructor)); (· exact rfl); (· exact Lay.nil_rd _ _); (· exact rfl); (· simp); clear hS; intro w41 q41 c41 hS; simp only [List.length_nil, Nat.add_zero, List.append_nil, List.nil_append] at hS))
            obtain ⟨g41, rfl⟩ := ownsRow_some (hS.row 1 rfl) (by omega)
            have hS3 := hS.forget (x := .box b35 _) (by (repeat constructor))
            obtain ⟨m2, hS2, hle2, hrd2⟩ := St.settleH hS3 rfl (fun y hy => by simp at hy; subst hy; exact IX.out) (by omega)
            go_roundw
            case rel => exact ⟨1, [⟨x.dist, x.id⟩], _, c41, m2, hlt, rfl, rfl, (by have := hstep.out 0 (by simp) (.inl rfl); show _ = _; simpa using this), .inr ⟨by omega, g41, rfl⟩, hrd2, hS2.done⟩
            case measure => (simp [intOf]; omega)
      · have HIO := Lib.hid (hits_in A1.out)
        obtain ⟨q9, c9, e9, hc3, hc4, _, hro⟩ := Lay.list_open A1.out
        cases e9
        have HRO := Lib.hid hro
        have hol2 : out.length ≤ 1000 := by omega
        have hc5 : c3 ≤ 9223372036854775807 := by simp only [maxLen] at hc4; omega
        have HC5 := Lib.hid hc4
        clear hro hc4 hol
        generalize xs[k] = x at *
        go_wp2_with (first 
    | ((with_reducible refine' Wl.out ?_; apply k_alloc (ty := 30) (dst := some 5) hS); (· exact .mk); clear hS; intro w5 b5 hS)
    | ((with_reducible refine' Wl.out ?_; apply k_loads hS); (· exact .mk))
    | go_skip
    | ((with_reducible refine' Wl.out ?_; apply kg_loads hS); iterate 2 (· exact .mk))
    | ((with_reducible refine' Wl.out ?_; refine' wg_case ?_ ?_) <;> (intro hgW; (try (have hg2 := hgW; simp [go_sem] at hg2)); (first | (exfalso; assumption) | ((with_reducible refine' Wl.out ?_; apply k_no hgW)) | ((with_reducible refine' Wl.out ?_; apply kg_loads hS ⟨hgW⟩); (· exact .mk))); clear hgW))
    | ((with_reducible refine' Wl.out ?_; apply k_stores hS); (· exact .mk); clear hS; intro ws hS))
        go_loopw [6] (fun j wr => ∃ a : Nat, a ≤ out.length ∧ j = .int .i64 a ∧ Hid (∀ y ∈ out.take a, ¬ x.lt y) ∧ St [] w m wr [.box b5 [.int .i64 x.dist, .int .i64 x.id]] m') (fun j _ => out.length - (intOf j).toNat)
        case atStart => exact ⟨0, Nat.zero_le _, rfl, by simp [Hid], hS⟩
        case round =>
          clear hS
          obtain ⟨a, hac, rfl, hno, hS⟩ := hrel
          by_cases ha : a < out.length
          · obtain ⟨b2, o2, cs, e2, hcs, hcell⟩ := HRO.out.get a ha
            cases e2
            obtain ⟨rfl, _, _⟩ := hitL_open hcs
            have hcy : ∀ j v, [Value.int .i64 out[a].dist, .int .i64 out[a].id][j]? = some v → m' ⟨g, a * 2 + j, none⟩ = some v := fun j v hj => by have := hcell j v hj; rwa [Nat.zero_add] at this
            have haz : (a : Int) < out.length := by omega
            by_cases hl : x.lt out[a]
            · have HL : Hid (decide ((⟨x.dist, x.id⟩ : Hit).lt ⟨out[a].dist, out[a].id⟩) = true) := decide_eq_true hl
              have HT := Lib.hid (rdL_take A1.out a hac)
              have HDp := Lib.hid (rd_drop A1.out a hac)
              have HTL : Hid ((out.take a).length = a) := by show _ = _; simp; try omega
              have HDL : Hid (a + 1 + (out.drop a).length = out.length + 1) := by show _ = _; simp; try omega
              have HST : Hid (out.take a ++ [(⟨x.dist, x.id⟩ : Hit)] ++ out.drop a = srt (xs.take (k + 1))) := hstep.out a hno.out (.inr ⟨ha, by rw [show out.getD a hz = out[a] by simp [List.getD, ha]]; exact hl⟩)
              have HNL : Hid ((out.take a ++ [(⟨x.dist, x.id⟩ : Hit)] ++ out.drop a).length = out.length + 1) := by show _ = _; simp; try omega
              have HIN : Hid (HitsIn (out.take a ++ [(⟨x.dist, x.id⟩ : Hit)] ++ out.drop a)) := fun y hy => by
                rcases List.mem_append.1 hy with hy | hy
                · rcases List.mem_append.1 hy with hy | hy
                  · exact HIO.out y (List.mem_of_mem_take hy)
                  · simp at hy; subst hy; exact IX.out
                · exact HIO.out y (List.mem_of_mem_drop hy)
              clear hcs hcell hl
              generalize out[a] = y at *
              go_wp2_with fail
              replace hS := hS.drew
              refine startL (S := Sx _ [(b5, _)]) (by kernel_rfl) (hS.sx0.cons hS (by (repeat constructor))) (fun _ _ _ _ => trivial) (fun hHeld => ?_)
              focus (refine takeN 0 (v := ?_) rfl (by kernel_rfl) ?_ ?_; rotate_left; focus (intro w hSw; clear hSw; go_simp; try with_reducible rfl))
              try simp only [Act.put, nz1, nz2, nz3]
              focus (refine takeN 1 (v := ?_) rfl (by kernel_rfl) ?_ ?_; rotate_left; focus (intro w hSw; clear hSw; go_simp; try with_reducible rfl))
              try simp only [Act.put, nz1, nz2, nz3]
              focus (refine takeN 2 (v := ?_) rfl (by kernel_rfl) ?_ ?_; rotate_left; focus (intro w hSw; clear hSw; go_simp; try with_reducible rfl))
              try simp only [Act.put, nz1, nz2, nz3]
              focus (refine takeN 3 (v := ?_) rfl (by kernel_rfl) ?_ ?_; rotate_left; focus (intro w hSw; clear hSw; go_simp; try with_reducible rfl))
              try simp only [Act.put, nz1, nz2, nz3]
              focus (refine takeN 4 (v := ?_) rfl (by kernel_rfl) ?_ ?_; rotate_left; focus (intro w hSw; clear hSw; go_simp; try with_reducible rfl))
              try simp only [Act.put, nz1, nz2, nz3]
              first | (focus (refine' takeG 5 rfl (by kernel_rfl) ?_ ?_ ?_; rotate_left; (focus (first | rfl | (go_simp <;> fail))); (focus (intro w hSw; refine' yield_loads rfl rowT30 rfl ?_ w hSw; (first | (apply FindsX.box; (· (repeat constructor)); (· (repeat constructor)); done) | (refine FindsX.mem (by assumption) ?_; first | rfl | assumption | (simp; done))))))) | (refine skipG 5 rfl (by kernel_rfl) ?_ ?_; (focus (first | rfl | (go_simp <;> fail))))
              try simp only [Act.put, nz1, nz2, nz3]
              first | (focus (refine takeG 6 (v := ?_) rfl (by kernel_rfl) ?_ ?_ ?_; rotate_left; (focus (first | rfl | (go_simp <;> fail))); (focus (intro w hSw; clear hSw; go_simp; try with_reducible rfl)))) | (refine skipG 6 rfl (by kernel_rfl) ?_ ?_; (focus (first | rfl | (go_simp <;> fail))))
              try simp only [Act.put, nz1, nz2, nz3]
              first | (focus (refine takeG 7 (v := ?_) rfl (by kernel_rfl) ?_ ?_ ?_; rotate_left; (focus (first | rfl | (go_simp <;> fail))); (focus (intro w hSw; clear hSw; go_simp; try with_reducible rfl)))) | (refine skipG 7 rfl (by kernel_rfl) ?_ ?_; (focus (first | rfl | (go_simp <;> fail))))
              try simp only [Act.put, nz1, nz2, nz3]
              first | (focus (refine takeG 8 (v := ?_) rfl (by kernel_rfl) ?_ ?_ ?_; rotate_left; (focus (first | rfl | (go_simp <;> fail))); (focus (intro w hSw; clear hSw; go_simp; try with_reducible rfl)))) | (refine skipG 8 rfl (by kernel_rfl) ?_ ?_; (focus (first | rfl | (go_simp <;> fail))))
              try simp only [Act.put, nz1, nz2, nz3]
              first | (focus (refine' takeG 9 rfl (by kernel_rfl) ?_ ?_ ?_; rotate_left; (focus (first | rfl | (go_simp <;> fail))); (focus (intro w hSw; refine' yield_loads rfl rowT30 rfl ?_ w hSw; (first | (apply FindsX.box; (· (repeat constructor)); (· (repeat constructor)); done) | (refine FindsX.mem (by assumption) ?_; first | rfl | assumption | (simp; done))))))) | (refine skipG 9 rfl (by kernel_rfl) ?_ ?_; (focus (first | rfl | (go_simp <;> fail))))
              try simp only [Act.put, nz1, nz2, nz3]
              refine wpAnyH_ready (rs := [10]) (by kernel_rfl) (by simp) ?_
              refine consL 10 rfl (fun K hK => ?_) AllReadyH.nil
              rw [if_pos (by first | rfl | (go_simp; done))]; go_simp; refine (rless_v _ _ hS.inw _ _ _ _).mono ?_; rintro e' w24 ⟨_, m24, rfl, hv24, hk24⟩; replace hS := hS.grow (grownBy_of_below hk24.below); clear hk24; rw [HL.out] at hv24; subst hv24; go_wp2_with fail
              refine hK.out _ _ (by first | exact (hS.sx0.cons hS (by (repeat constructor))) | exact Sx.le (by assumption) (hS.sx0.cons hS (by (repeat constructor)))) (fun hHeld => ?_)
              clear hK K
              try simp only [Act.put, nz1, nz2, nz3]
              first | (focus (refine takeG 11 (v := ?_) rfl (by kernel_rfl) ?_ ?_ ?_; rotate_left; (focus (first | rfl | (go_simp <;> fail))); (focus (intro w hSw; clear hSw; go_simp; try with_reducible rfl)))) | (refine skipG 11 rfl (by kernel_rfl) ?_ ?_; (focus (first | rfl | (go_simp <;> fail))))
              try simp only [Act.put, nz1, nz2, nz3]
              focus (refine takeN 12 (v := ?_) rfl (by kernel_rfl) ?_ ?_; rotate_left; focus (intro w hSw; clear hSw; go_simp; try with_reducible rfl))
              try simp only [Act.put, nz1, nz2, nz3]
              refine wpAnyH_done (by kernel_rfl) ?_ _
              refine NoPanic.normal ?_
              all_goals
                go_wp2_with (first 
    | ((with_reducible refine' Wl.out ?_; apply k_alloc (ty := 30) (dst := some 5) hS); (· exact .mk); clear hS; intro w5 b5 hS)
    | ((with_reducible refine' Wl.out ?_; apply k_loads hS); (· exact .mk))
    | go_skip
    | ((with_reducible refine' Wl.out ?_; apply kg_loads hS); iterate 2 (· exact .mk))
    | ((with_reducible refine' Wl.out ?_; refine' wg_case ?_ ?_) <;> (intro hgW; (try (have hg2 := hgW; simp [go_sem] at hg2)); (first | (exfalso; assumption) | ((with_reducible refine' Wl.out ?_; apply k_no hgW)) | ((with_reducible refine' Wl.out ?_; apply kg_loads hS ⟨hgW⟩); (· exact .mk))); clear hgW))
    | ((with_reducible refine' Wl.out ?_; apply k_stores hS); (· exact .mk); clear hS; intro ws hS)
                  | ((with_reducible refine' Wl.out ?_; apply wl_appH_nil hS); (· exact rfl); (· exact rfl); (· exact HT.out); (· exact HTL.out); clear hS; intro w32 q32 c32 hS)
                  | ((with_reducible refine' Wl.out ?_; apply wl_lit el_hit (cs := [.int .i64 x.dist, .int .i64 x.id]) hS); (· decide); (· decide); (· kernel_rfl); clear hS; intro w35 b35 hS)
                  | ((with_reducible refine' Wl.out ?_; apply wl_appH1 (d := x.dist) (i := x.id) hS); (· exact rfl); (· (repeat constructor)); (· exact rfl); (· (repeat constructor)); (· omega); clear hS; intro w36 q36 c36 hS)
                  | ((with_reducible refine' Wl.out ?_; apply wl_appH (n' := out.length + 1) hS); (· exact rfl); (· (repeat constructor)); (· exact rfl); (· exact HDp.out); (· exact HDL.out); (· omega); clear hS; intro w41 q41 c41 hS))
                obtain ⟨g41, rfl⟩ := ownsRow_some (hS.row 1 rfl) (by omega)
                have hS3 := hS.forget (x := .box b35 _) (by (repeat constructor))
                obtain ⟨m2, hS2, hle2, hrd2⟩ := St.settleH hS3 HNL.out HIN.out (by omega)
                go_roundw
                case rel => exact ⟨k + 1, _, _, c41, m2, hlt, by rw [HNL.out], by go_num, HST.out, .inr ⟨by omega, g41, rfl⟩, (by rw [HNL.out]; exact hrd2), hS2.done⟩
                case measure => (simp [intOf]; omega)
            · have HL : Hid (decide ((⟨x.dist, x.id⟩ : Hit).lt ⟨out[a].dist, out[a].id⟩) = false) := decide_eq_false hl
              have hN : Hid (∀ y ∈ out.take (a + 1), ¬ x.lt y) := fun y hy => by
                rw [List.take_succ_eq_append_getElem ha] at hy
                rcases List.mem_append.1 hy with hy | hy
                · exact hno.out y hy
                · simp at hy; subst hy; exact hl
              clear hcs hcell hl hno
              generalize out[a] = y at *
              go_wp2_with fail
              replace hS := hS.drew
              refine startL (S := Sx _ [(b5, _)]) (by kernel_rfl) (hS.sx0.cons hS (by (repeat constructor))) (fun _ _ _ _ => trivial) (fun hHeld => ?_)
              focus (refine takeN 0 (v := ?_) rfl (by kernel_rfl) ?_ ?_; rotate_left; focus (intro w hSw; clear hSw; go_simp; try with_reducible rfl))
              try simp only [Act.put, nz1, nz2, nz3]
              focus (refine takeN 1 (v := ?_) rfl (by kernel_rfl) ?_ ?_; rotate_left; focus (intro w hSw; clear hSw; go_simp; try with_reducible rfl))
              try simp only [Act.put, nz1, nz2, nz3]
              focus (refine takeN 2 (v := ?_) rfl (by kernel_rfl) ?_ ?_; rotate_left; focus (intro w hSw; clear hSw; go_simp; try with_reducible rfl))
              try simp only [Act.put, nz1, nz2, nz3]
              focus (refine takeN 3 (v := ?_) rfl (by kernel_rfl) ?_ ?_; rotate_left; focus (intro w hSw; clear hSw; go_simp; try with_reducible rfl))
              try simp only [Act.put, nz1, nz2, nz3]
              focus (refine takeN 4 (v := ?_) rfl (by kernel_rfl) ?_ ?_; rotate_left; focus (intro w hSw; clear hSw; go_simp; try with_reducible rfl))
              try simp only [Act.put, nz1, nz2, nz3]
              first | (focus (refine' takeG 5 rfl (by kernel_rfl) ?_ ?_ ?_; rotate_left; (focus (first | rfl | (go_simp <;> fail))); (focus (intro w hSw; refine' yield_loads rfl rowT30 rfl ?_ w hSw; (first | (apply FindsX.box; (· (repeat constructor)); (· (repeat constructor)); done) | (refine FindsX.mem (by assumption) ?_; first | rfl | assumption | (simp; done))))))) | (refine skipG 5 rfl (by kernel_rfl) ?_ ?_; (focus (first | rfl | (go_simp <;> fail))))
              try simp only [Act.put, nz1, nz2, nz3]
              first | (focus (refine takeG 6 (v := ?_) rfl (by kernel_rfl) ?_ ?_ ?_; rotate_left; (focus (first | rfl | (go_simp <;> fail))); (focus (intro w hSw; clear hSw; go_simp; try with_reducible rfl)))) | (refine skipG 6 rfl (by kernel_rfl) ?_ ?_; (focus (first | rfl | (go_simp <;> fail))))
              try simp only [Act.put, nz1, nz2, nz3]
              first | (focus (refine takeG 7 (v := ?_) rfl (by kernel_rfl) ?_ ?_ ?_; rotate_left; (focus (first | rfl | (go_simp <;> fail))); (focus (intro w hSw; clear hSw; go_simp; try with_reducible rfl)))) | (refine skipG 7 rfl (by kernel_rfl) ?_ ?_; (focus (first | rfl | (go_simp <;> fail))))
              try simp only [Act.put, nz1, nz2, nz3]
              first | (focus (refine takeG 8 (v := ?_) rfl (by kernel_rfl) ?_ ?_ ?_; rotate_left; (focus (first | rfl | (go_simp <;> fail))); (focus (intro w hSw; clear hSw; go_simp; try with_reducible rfl)))) | (refine skipG 8 rfl (by kernel_rfl) ?_ ?_; (focus (first | rfl | (go_simp <;> fail))))
              try simp only [Act.put, nz1, nz2, nz3]
              first | (focus (refine' takeG 9 rfl (by kernel_rfl) ?_ ?_ ?_; rotate_left; (focus (first | rfl | (go_simp <;> fail))); (focus (intro w hSw; refine' yield_loads rfl rowT30 rfl ?_ w hSw; (first | (apply FindsX.box; (· (repeat constructor)); (· (repeat constructor)); done) | (refine FindsX.mem (by assumption) ?_; first | rfl | assumption | (simp; done))))))) | (refine skipG 9 rfl (by kernel_rfl) ?_ ?_; (focus (first | rfl | (go_simp <;> fail))))
              try simp only [Act.put, nz1, nz2, nz3]
              refine wpAnyH_ready (rs := [10]) (by kernel_rfl) (by simp) ?_
              refine consL 10 rfl (fun K hK => ?_) AllReadyH.nil
              rw [if_pos (by first | rfl | (go_simp; done))]; go_simp; refine (rless_v _ _ hS.inw _ _ _ _).mono ?_; rintro e' w24 ⟨_, m24, rfl, hv24, hk24⟩; replace hS := hS.grow (grownBy_of_below hk24.below); clear hk24; rw [HL.out] at hv24; subst hv24; go_wp2_with fail
              refine hK.out _ _ (by first | exact (hS.sx0.cons hS (by (repeat constructor))) | exact Sx.le (by assumption) (hS.sx0.cons hS (by (repeat constructor)))) (fun hHeld => ?_)
              clear hK K
              try simp only [Act.put, nz1, nz2, nz3]
              first | (focus (refine takeG 11 (v := ?_) rfl (by kernel_rfl) ?_ ?_ ?_; rotate_left; (focus (first | rfl | (go_simp <;> fail))); (focus (intro w hSw; clear hSw; go_simp; try with_reducible rfl)))) | (refine skipG 11 rfl (by kernel_rfl) ?_ ?_; (focus (first | rfl | (go_simp <;> fail))))
              try simp only [Act.put, nz1, nz2, nz3]
              focus (refine takeN 12 (v := ?_) rfl (by kernel_rfl) ?_ ?_; rotate_left; focus (intro w hSw; clear hSw; go_simp; try with_reducible rfl))
              try simp only [Act.put, nz1, nz2, nz3]
              refine wpAnyH_done (by kernel_rfl) ?_ _
              refine NoPanic.normal ?_
              all_goals
                go_wp2_with fail
                go_roundw
                case rel => exact ⟨a + 1, ha, by go_num, hN, hS⟩
                case measure => (simp [intOf]; omega)
          · obtain rfl : a = out.length := by omega
            have HDz : Hid (∀ (p : Option Addr) (c : Nat), c ≤ maxLen → hitL.list.rd m' [.slice p 0 c] (out.drop out.length)) := fun p c hc => by rw [List.drop_length]; exact ⟨p, c, rfl, Nat.zero_le _, hc, by simp, Row.nil _ _ _⟩
            have HT := Lib.hid (rdL_take A1.out out.length hac)
            have HDp := Lib.hid (by have := rd_drop A1.out out.length hac; rw [Nat.sub_self] at this; exact this)
            have HTL : Hid ((out.take out.length).length = out.length) := by show _ = _; simp; try omega
            have HDL : Hid (out.length + 1 + (out.drop out.length).length = out.length + 1) := by show _ = _; simp; try omega
            have HST : Hid (out.take out.length ++ [(⟨x.dist, x.id⟩ : Hit)] ++ out.drop out.length = srt (xs.take (k + 1))) := hstep.out out.length hno.out (.inl rfl)
            have HNL : Hid ((out.take out.length ++ [(⟨x.dist, x.id⟩ : Hit)] ++ out.drop out.length).length = out.length + 1) := by show _ = _; simp; try omega
            have HIN : Hid (HitsIn (out.take out.length ++ [(⟨x.dist, x.id⟩ : Hit)] ++ out.drop out.length)) := fun y hy => by
              rcases List.mem_append.1 hy with hy | hy
              · rcases List.mem_append.1 hy with hy | hy
                · exact HIO.out y (List.mem_of_mem_take hy)
                · simp at hy; subst hy; exact IX.out
              · exact HIO.out y (List.mem_of_mem_drop hy)
            go_wp2_with fail
            replace hS := hS.drew
            refine startL (S := Sx _ [(b5, _)]) (by kernel_rfl) (hS.sx0.cons hS (by (repeat constructor))) (fun _ _ _ _ => trivial) (fun hHeld => ?_)
            focus (refine takeN 0 (v := ?_) rfl (by kernel_rfl) ?_ ?_; rotate_left; focus (intro w hSw; clear hSw; go_simp; try with_reducible rfl))
            try simp only [Act.put, nz1, nz2, nz3]
            focus (refine takeN 1 (v := ?_) rfl (by kernel_rfl) ?_ ?_; rotate_left; focus (intro w hSw; clear hSw; go_simp; try with_reducible rfl))
            try simp only [Act.put, nz1, nz2, nz3]
            focus (refine takeN 2 (v := ?_) rfl (by kernel_rfl) ?_ ?_; rotate_left; focus (intro w hSw; clear hSw; go_simp; try with_reducible rfl))
            try simp only [Act.put, nz1, nz2, nz3]
            focus (refine takeN 3 (v := ?_) rfl (by kernel_rfl) ?_ ?_; rotate_left; focus (intro w hSw; clear hSw; go_simp; try with_reducible rfl))
            try simp only [Act.put, nz1, nz2, nz3]
            focus (refine takeN 4 (v := ?_) rfl (by kernel_rfl) ?_ ?_; rotate_left; focus (intro w hSw; clear hSw; go_simp; try with_reducible rfl))
            try simp only [Act.put, nz1, nz2, nz3]
            first | (focus (refine' takeG 5 rfl (by kernel_rfl) ?_ ?_ ?_; rotate_left; (focus (first | rfl | (go_simp <;> fail))); (focus (intro w hSw; refine' yield_loads rfl rowT30 rfl ?_ w hSw; (first | (apply FindsX.box; (· (repeat constructor)); (· (repeat constructor)); done) | (refine FindsX.mem (by assumption) ?_; first | rfl | assumption | (simp; done))))))) | (refine skipG 5 rfl (by kernel_rfl) ?_ ?_; (focus (first | rfl | (go_simp <;> fail))))
            try simp only [Act.put, nz1, nz2, nz3]
            first | (focus (refine takeG 6 (v := ?_) rfl (by kernel_rfl) ?_ ?_ ?_; rotate_left; (focus (first | rfl | (go_simp <;> fail))); (focus (intro w hSw; clear hSw; go_simp; try with_reducible rfl)))) | (refine skipG 6 rfl (by kernel_rfl) ?_ ?_; (focus (first | rfl | (go_simp <;> fail))))
            try simp only [Act.put, nz1, nz2, nz3]
            first | (focus (refine takeG 7 (v := ?_) rfl (by kernel_rfl) ?_ ?_ ?_; rotate_left; (focus (first | rfl | (go_simp <;> fail))); (focus (intro w hSw; clear hSw; go_simp; try with_reducible rfl)))) | (refine skipG 7 rfl (by kernel_rfl) ?_ ?_; (focus (first | rfl | (go_simp <;> fail))))
            try simp only [Act.put, nz1, nz2, nz3]
            first | (focus (refine takeG 8 (v := ?_) rfl (by kernel_rfl) ?_ ?_ ?_; rotate_left; (focus (first | rfl | (go_simp <;> fail))); (focus (intro w hSw; clear hSw; go_simp; try with_reducible rfl)))) | (refine skipG 8 rfl (by kernel_rfl) ?_ ?_; (focus (first | rfl | (go_simp <;> fail))))
            try simp only [Act.put, nz1, nz2, nz3]
            first | (focus (refine' takeG 9 rfl (by kernel_rfl) ?_ ?_ ?_; rotate_left; (focus (first | rfl | (go_simp <;> fail))); (focus (intro w hSw; refine' yield_loads rfl rowT30 rfl ?_ w hSw; (first | (apply FindsX.box; (· (repeat constructor)); (· (repeat constructor)); done) | (refine FindsX.mem (by assumption) ?_; first | rfl | assumption | (simp; done))))))) | (refine skipG 9 rfl (by kernel_rfl) ?_ ?_; (focus (first | rfl | (go_simp <;> fail))))
            try simp only [Act.put, nz1, nz2, nz3]
            refine wpAnyH_ready (rs := [10]) (by kernel_rfl) (by simp) ?_
            refine consL 10 rfl (fun K hK => ?_) AllReadyH.nil
            rw [if_neg (by exact Bool.false_ne_true)]
            refine hK.out _ _ (by first | exact (hS.sx0.cons hS (by (repeat constructor))) | exact Sx.le (by assumption) (hS.sx0.cons hS (by (repeat constructor)))) (fun hHeld => ?_)
            clear hK K
            try simp only [Act.put, nz1, nz2, nz3]
            first | (focus (refine takeG 11 (v := ?_) rfl (by kernel_rfl) ?_ ?_ ?_; rotate_left; (focus (first | rfl | (go_simp <;> fail))); (focus (intro w hSw; clear hSw; go_simp; try with_reducible rfl)))) | (refine skipG 11 rfl (by kernel_rfl) ?_ ?_; (focus (first | rfl | (go_simp <;> fail))))
            try simp only [Act.put, nz1, nz2, nz3]
            focus (refine takeN 12 (v := ?_) rfl (by kernel_rfl) ?_ ?_; rotate_left; focus (intro w hSw; clear hSw; go_simp; try with_reducible rfl))
            try simp only [Act.put, nz1, nz2, nz3]
            refine wpAnyH_done (by kernel_rfl) ?_ _
            refine NoPanic.normal ?_
            all_goals
              go_wp2_with (first 
    | ((with_reducible refine' Wl.out ?_; apply k_alloc (ty := 30) (dst := some 5) hS); (· exact .mk); clear hS; intro w5 b5 hS)
    | ((with_reducible refine' Wl.out ?_; apply k_loads hS); (· exact .mk))
    | go_skip
    | ((with_reducible refine' Wl.out ?_; apply kg_loads hS); iterate 2 (· exact .mk))
    | ((with_reducible refine' Wl.out ?_; refine' wg_case ?_ ?_) <;> (intro hgW; (try (have hg2 := hgW; simp [go_sem] at hg2)); (first | (exfalso; assumption) | ((with_reducible refine' Wl.out ?_; apply k_no hgW)) | ((with_reducible refine' Wl.out ?_; apply kg_loads hS ⟨hgW⟩); (· exact .mk))); clear hgW))
    | ((with_reducible refine' Wl.out ?_; apply k_stores hS); (· exact .mk); clear hS; intro ws hS)
                | ((with_reducible refine' Wl.out ?_; apply wl_appH_nil hS); (· exact rfl); (· exact rfl); (· exact HT.out); (· exact HTL.out); clear hS; intro w32 q32 c32 hS)
                | ((with_reducible refine' Wl.out ?_; apply wl_lit el_hit (cs := [.int .i64 x.dist, .int .i64 x.id]) hS); (· decide); (· decide); (· kernel_rfl); clear hS; intro w35 b35 hS)
                | ((with_reducible refine' Wl.out ?_; apply wl_appH1 (d := x.dist) (i := x.id) hS); (· exact rfl); (· (repeat constructor)); (· exact rfl); (· (repeat constructor)); (· omega); clear hS; intro w36 q36 c36 hS)
                | ((with_reducible refine' Wl.out ?_; apply wl_appH (n' := out.length + 1) hS); (· exact rfl); (· (repeat constructor)); (· exact rfl); (· (exact HDz.out _ _ (Nat.le_trans (Nat.sub_le _ _) HC5.out))); (· exact HDL.out); (· omega); clear hS; intro w41 q41 c41 hS))
              obtain ⟨g41, rfl⟩ := ownsRow_some (hS.row 1 rfl) (by omega)
              have hS3 := hS.forget (x := .box b35 _) (by (repeat constructor))
              obtain ⟨m2, hS2, hle2, hrd2⟩ := St.settleH hS3 HNL.out HIN.out (by omega)
              go_roundw
              case rel => exact ⟨k + 1, _, _, c41, m2, hlt, by rw [HNL.out], by go_num, HST.out, .inr ⟨by omega, g41, rfl⟩, (by rw [HNL.out]; exact hrd2), hS2.done⟩
              case measure => (simp [intOf]; omega)
    · obtain rfl : k = xs.length := by omega
      rw [List.take_length] at hO
      obtain rfl := hO.out
      go_wp2_with fail
      go_ret
      exact ⟨_, m', rfl, ⟨_, _, rfl, A1.out⟩, hS⟩
end Go.Proofs.Ytlkdjmpkapeppaa
