/- The reference's Sorted, Worst, Add of hits. -/
import Derived.Test.YtlkdjmpkapeppaaBr2G
import Derived.Test.YtlkdjmpkapeppaaBn1G
namespace Go.Proofs.Ytlkdjmpkapeppaa
set_option linter.unusedVariables false
set_option linter.unusedSimpArgs false
open Go.RowKit Go.Shelf
/-- Hits, and an error, are handed back. -/
def RetHE (w : World) (m : Mem) (R : List Hit) (E : Int) : Ending → World → Prop := Ret w m fun v m' => ∃ q c, v = .tuple #[.slice q R.length c, .int .i64 E] ∧ hitL.list.rd m' [.slice q R.length c] R
theorem letRH {f : FuncId} {args : Array Value} {w : World} {m : Mem} {R : List Hit} {E : Int} (h : Calls Try.prog f args w (RetHE w m R E)) :
    Calls Try.prog f args w (Ret w m fun v m' => ∃ p c Y e', Hid (Y = R) ∧ Hid (e' = E) ∧ v = .tuple #[.slice p Y.length c, .int .i64 e'] ∧ Hid (hitL.list.rd m' [.slice p Y.length c] Y) ∧ Hid (Y.length ≤ c ∧ c ≤ maxLen)) :=
  h.mono fun en w' ⟨v, m', h1, ⟨q, c, h2, h3⟩, h4⟩ => by
    obtain ⟨_, _, e, a1, a2, _⟩ := Lay.list_open h3
    cases e
    exact ⟨v, m', h1, ⟨q, c, R, E, rfl, rfl, h2, h3, a1, a2⟩, h4⟩
theorem okH_len {l : List Hit} {k : Int} (h : okH l k) : l.length ≤ 1000 := by have := h.2.1; have := h.2.2.1; omega
set_option maxRecDepth 100000 in
set_option maxHeartbeats 4000000 in
theorem rsorted16_c (m : Mem) (w : World) (hm : m.In w) (v : Value) (xs : List Hit) (hr : hitL.list.rd m [v] xs) (K : Int) (hK : InK .i64 K) :
    Calls Try.prog 20 #[v, .int .i64 K] w (RetHE w m (sortH xs K) (chkE xs K)) := by
  have hS := St.start hm
  have HL := Lib.hid hr
  clear hr
  by_cases hok : okH xs K
  · have hc : chkE xs K = 0 := if_pos hok
    have hs : sortH xs K = srt xs := if_pos hok
    have hlen := Lib.hid (okH_len hok)
    rw [hs]
    clear hok hs
    go_enter Try.func20, Try.ntmps20
    go_wp2_with (first
      | (go_at_call 22; refine (rcheck16_c m _ hS.inw _ xs HL.out K hK).mono ?_; rintro e' w12 ⟨_, m12, rfl, hv12, hk12⟩; replace hS := hS.grow (grownBy_of_below hk12.below); clear hk12; rw [hc] at hv12; subst hv12)
      | (go_at_call 21; refine (order16_c m _ hS.inw _ xs HL.out hlen.out).mono ?_; rintro e' w11 ⟨_, m11, rfl, ⟨q11, c11, rfl, R11⟩, hk11⟩; replace hS := hS.call hk11; clear hk11))
    go_ret2
    exact ⟨_, _, rfl, ⟨q11, c11, by rw [hc]; rfl, R11⟩, hS⟩
  · have hc : chkE xs K = 1 := if_neg hok
    have hs : sortH xs K = [] := if_neg hok
    rw [hc, hs]
    clear hok hs
    go_enter Try.func20, Try.ntmps20
    go_wp2_with (first
      | (go_at_call 22; refine (rcheck16_c m _ hS.inw _ xs HL.out K hK).mono ?_; rintro e' w12 ⟨_, m12, rfl, hv12, hk12⟩; replace hS := hS.grow (grownBy_of_below hk12.below); clear hk12; rw [hc] at hv12; subst hv12))
    go_ret2
    exact ⟨_, _, rfl, ⟨none, 0, rfl, Lay.nil_rd _ _⟩, hS⟩
theorem srt_last {l : List Hit} (h0 : 0 < l.length) (hh : Heap l l.length) : (srt l).getD (l.length - 1) hz = l.getD 0 hz := by
  have hl := srt_length l
  have e : (srt l).getD (l.length - 1) hz = (srt l)[l.length - 1]'(by omega) := by simp [List.getD, show l.length - 1 < (srt l).length by omega]
  rw [e]
  have hm : (srt l)[l.length - 1]'(by omega) ∈ l := (srt_perm l).mem_iff.1 (List.getElem_mem _)
  have h1 := worst_top h0 hh _ hm
  have ht : l.getD 0 hz ∈ srt l := (srt_perm l).mem_iff.2 (by simp [List.getD, h0])
  obtain ⟨i, hi, hi2⟩ := List.getElem_of_mem ht
  by_cases hli : i = l.length - 1
  · subst hli; exact hi2
  · have := List.pairwise_iff_getElem.1 (srt_asc l) i (l.length - 1) hi (by omega) (by omega)
    rw [hi2] at this
    exact Hit.tri this h1
/-- A hit of a row that is read. -/
theorem cells_at {m : Mem} {q : Option Addr} {n c k : Nat} {xs : List Hit} {y : Hit} (R : hitL.list.rd m [.slice q n c] xs) (hn : xs.length = n) (hk : k < n) (hy : xs.getD k hz = y) :
    ∃ b o, q = some ⟨b, o, none⟩ ∧ ∀ j v, [Value.int .i64 y.dist, .int .i64 y.id][j]? = some v → m ⟨b, o + k * 2 + j, none⟩ = some v := by
  obtain ⟨q5, c5, e5, _, _, _, hro⟩ := Lay.list_open R
  cases e5
  obtain ⟨b5, o5, cs5, rfl, hcs5, hcell5⟩ := hro.get k (by omega)
  obtain ⟨rfl, _, _⟩ := hitL_open hcs5
  have hye : xs[k]'(by omega) = y := by rw [← hy]; simp [List.getD, show k < xs.length by omega]
  rw [hye] at hcell5
  exact ⟨b5, o5, rfl, hcell5⟩
set_option maxRecDepth 100000 in
set_option maxHeartbeats 4000000 in
theorem rworst16_c (m : Mem) (w : World) (hm : m.In w) (v : Value) (xs : List Hit) (hr : hitL.list.rd m [v] xs) (K : Int) (hK : InK .i64 K) :
    Calls Try.prog 19 #[v, .int .i64 K] w (Ret w m fun v _ => v = .tuple #[hitA (wH xs K), .bool (wB xs K), .int .i64 (wE xs K)]) := by
  have hS := St.start hm
  have HL := Lib.hid hr
  obtain ⟨q, c, rfl, _, hcm, _, _⟩ := Lay.list_open hr
  clear hr
  have fin : ∀ E : Int, wE xs K = E → E ≠ 0 → wH xs K = hz ∧ wB xs K = false ∧ wE xs K = E := fun E h1 h2 => ⟨if_neg (by rw [h1]; exact h2), if_neg (by rw [h1]; exact h2), h1⟩
  by_cases hok : okH xs K
  · have hc : chkE xs K = 0 := if_pos hok
    have hlen := Lib.hid (okH_len hok)
    by_cases h0 : xs.length = 0
    · obtain ⟨e1, e2, e3⟩ := fin 5 (by unfold wE; rw [if_pos hok, if_pos h0]) (by decide)
      rw [e1, e2, e3]
      clear e1 e2 e3 fin
      obtain rfl : xs = [] := List.eq_nil_of_length_eq_zero h0
      clear h0
      go_enter Try.func19, Try.ntmps19
      go_wp2_with (first 
    | ((with_reducible refine' Wl.out ?_; apply k_alloc hS); (· exact .mk); clear hS; intro _ _ hS)
    | ((with_reducible refine' Wl.out ?_; apply k_loads hS); (· exact .mk))
    | ((with_reducible refine' Wl.out ?_; apply k_stores hS); (· exact .mk); clear hS; intro ws hS)
        | (go_at_call 22; refine (rcheck16_c m _ hS.inw _ [] HL.out K hK).mono ?_; rintro e' w12 ⟨_, m12, rfl, hv12, hk12⟩; replace hS := hS.grow (grownBy_of_below hk12.below); clear hk12; rw [hc] at hv12; subst hv12))
      refine ret_cell_tmp2 (n := 2) (vs := [.int .i64 0, .int .i64 0]) Try.results19 rfl hS (by (repeat constructor)) rfl rowT30 rfl ?_
      exact ⟨_, m, rfl, rfl, hS.done⟩
    · have e0 : wE xs K = 0 := by unfold wE; rw [if_pos hok, if_neg h0]
      have e1 : wH xs K = (srt xs).getD (xs.length - 1) hz := by rw [srt_last (by omega) hok.2.2.2.2.2]; exact if_pos e0
      have e2 : wB xs K = decide ((xs.length : Int) = K) := if_pos e0
      have hl100 := okH_len hok
      have z1 : (1 : Int) ≤ xs.length := by omega
      have z2 : ((xs.length : Int) - 1).toNat = xs.length - 1 := by omega
      have z3 : (xs.length : Int) - 1 < xs.length := by omega
      have z4 : xs.length - 1 < xs.length := by omega
      have HLn := Lib.hid (srt_length xs)
      have h0' : ¬ (xs.length : Int) ≤ 0 := by omega
      rw [e0, e1, e2]
      clear e0 e1 e2 fin
      obtain ⟨y, hy⟩ : ∃ y, (srt xs).getD (xs.length - 1) hz = y := ⟨_, rfl⟩
      rw [hy]
      have HY := Lib.hid hy
      clear hy
      go_enter Try.func19, Try.ntmps19
      go_wp2_with (first 
    | ((with_reducible refine' Wl.out ?_; apply k_alloc hS); (· exact .mk); clear hS; intro _ _ hS)
    | ((with_reducible refine' Wl.out ?_; apply k_loads hS); (· exact .mk))
    | ((with_reducible refine' Wl.out ?_; apply k_stores hS); (· exact .mk); clear hS; intro ws hS)
        | (go_at_call 22; refine (rcheck16_c m _ hS.inw _ xs HL.out K hK).mono ?_; rintro e' w12 ⟨_, m12, rfl, hv12, hk12⟩; replace hS := hS.grow (grownBy_of_below hk12.below); clear hk12; rw [hc] at hv12; subst hv12)
        | (go_at_call 21; refine (order16_c m _ hS.inw _ xs HL.out hlen.out).mono ?_; rintro e' w11 ⟨_, m11, rfl, ⟨q11, c11, rfl, R11⟩, hk11⟩; replace hS := hS.call hk11; clear hk11; rw [HLn.out] at R11 ⊢; obtain ⟨b5, o5, rfl, hcy⟩ := cells_at R11 HLn.out z4 HY.out; clear R11))
      refine ret_cell_tmp2 (n := 2) (vs := [.int .i64 y.dist, .int .i64 y.id]) Try.results19 rfl hS (by (repeat constructor)) rfl rowT30 rfl ?_
      exact ⟨_, _, rfl, by simp; rfl, hS.done⟩
  · have hc : chkE xs K = 1 := if_neg hok
    obtain ⟨e1, e2, e3⟩ := fin 1 (by unfold wE; rw [if_neg hok]) (by decide)
    rw [e1, e2, e3]
    clear e1 e2 e3 fin
    go_enter Try.func19, Try.ntmps19
    go_wp2_with (first 
    | ((with_reducible refine' Wl.out ?_; apply k_alloc hS); (· exact .mk); clear hS; intro _ _ hS)
    | ((with_reducible refine' Wl.out ?_; apply k_loads hS); (· exact .mk))
    | ((with_reducible refine' Wl.out ?_; apply k_stores hS); (· exact .mk); clear hS; intro ws hS)
      | (go_at_call 22; refine (rcheck16_c m _ hS.inw _ xs HL.out K hK).mono ?_; rintro e' w12 ⟨_, m12, rfl, hv12, hk12⟩; replace hS := hS.grow (grownBy_of_below hk12.below); clear hk12; rw [hc] at hv12; subst hv12))
    refine ret_cell_tmp2 (n := 2) (vs := [.int .i64 0, .int .i64 0]) Try.results19 rfl hS (by (repeat constructor)) rfl rowT30 rfl ?_
    exact ⟨_, m, rfl, rfl, hS.done⟩
/-- What the reference's Add hands back. -/
def raddL (l : List Hit) (k : Int) (h : Hit) : List Hit := if addX l k h = 0 then near k.toNat (l ++ [h]) else []
set_option maxRecDepth 100000 in
set_option maxHeartbeats 4000000 in
theorem radd16_v (m : Mem) (w : World) (hm : m.In w) (v : Value) (xs : List Hit) (hr : hitL.list.rd m [v] xs) (K : Int) (hK : InK .i64 K) (d i : Int) (hd : InK .i64 d) (hi : InK .i64 i) :
    Calls Try.prog 17 #[v, .int .i64 K, .agg #[.int .i64 d, .int .i64 i]] w (RetHE w m (raddL xs K ⟨d, i⟩) (addX xs K ⟨d, i⟩)) := by
  have hS := St.start hm
  have HL := Lib.hid hr
  obtain ⟨q, c, rfl, _, hcm, _, hrow⟩ := Lay.list_open hr
  have HR := Lib.hid hrow
  have HD := Lib.hid (And.intro hd hi)
  clear hr hrow hd hi
  by_cases hok : okH xs K
  · have hc : chkE xs K = 0 := if_pos hok
    have hl100 := okH_len hok
    have hlK := hok.2.2.1
    have hK1 := hok.1
    have hK2 := hok.2.1
    by_cases hfine : fineH ⟨d, i⟩
    · have ho : decide (fineH ⟨d, i⟩) = true := decide_eq_true hfine
      have HO := Lib.hid (And.intro hok hfine)
      clear hok hfine
      go_enter Try.func17, Try.ntmps17
      go_wp2_with (first 
    | ((with_reducible refine' Wl.out ?_; apply k_box (ty := 30) (y := (.tmp 2)) hS); (· exact .mk); clear hS; intro w5 b5 hS)
    | ((with_reducible refine' Wl.out ?_; apply k_alloc (ty := 30) (dst := some 9) hS); (· exact .mk); clear hS; intro w9 b9 hS)
    | ((with_reducible refine' Wl.out ?_; apply k_load hS); (· exact .mk))
    | ((with_reducible refine' Wl.out ?_; apply k_loads hS); (· exact .mk))
    | go_skip
    | ((with_reducible refine' Wl.out ?_; apply kg_load hS); iterate 2 (· exact .mk))
    | ((with_reducible refine' Wl.out ?_; apply kg_loads hS); iterate 2 (· exact .mk))
    | ((with_reducible refine' Wl.out ?_; refine' wg_case ?_ ?_) <;> (intro hgW; (try (have hg2 := hgW; simp [go_sem] at hg2)); (first | (exfalso; assumption) | ((with_reducible refine' Wl.out ?_; apply k_no hgW)) | ((with_reducible refine' Wl.out ?_; apply kg_load hS ⟨hgW⟩); (· exact .mk)) | ((with_reducible refine' Wl.out ?_; apply kg_loads hS ⟨hgW⟩); (· exact .mk))); clear hgW))
    | ((with_reducible refine' Wl.out ?_; apply k_stores hS); (· exact .mk); clear hS; intro ws hS)
        | (go_at_call 22; refine (rcheck16_c m _ hS.inw _ xs HL.out K hK).mono ?_; rintro e' w12 ⟨_, m12, rfl, hv12, hk12⟩; replace hS := hS.grow (grownBy_of_below hk12.below); clear hk12; rw [hc] at hv12; subst hv12)
        | (go_at_call 40; refine (may_v m _ hS.inw _ _).mono ?_; rintro e' w17 ⟨_, m17, rfl, hv17, hk17⟩; replace hS := hS.grow (grownBy_of_below hk17.below); clear hk17; rw [ho] at hv17; subst hv17))
      clear hc ho
      go_loopw [22] (fun j wr => ∃ k : Nat, k ≤ xs.length ∧ j = .int .i64 k ∧ Hid (∀ y ∈ xs.take k, y.id ≠ i) ∧ St [] w m wr [.box b5 [.int .i64 d, .int .i64 i]] m) (fun j _ => xs.length - (intOf j).toNat)
      case atStart => exact ⟨0, Nat.zero_le _, rfl, by simp [Hid], hS⟩
      case round =>
        clear hS
        obtain ⟨k, hk, rfl, hno, hS⟩ := hrel
        by_cases hlt : k < xs.length
        · obtain ⟨bq, oq, cs, rfl, hcs, hcell⟩ := HR.out.get k hlt
          obtain ⟨rfl, _, _⟩ := hitL_open hcs
          have hcx : ∀ j v, [Value.int .i64 xs[k].dist, .int .i64 xs[k].id][j]? = some v → m ⟨bq, oq + k * 2 + j, none⟩ = some v := hcell
          have hkz : (k : Int) < xs.length := by omega
          by_cases he : xs[k].id = i
          · have ht : xs.any (fun x => decide (x.id = (⟨d, i⟩ : Hit).id)) = true := List.any_eq_true.2 ⟨_, List.getElem_mem hlt, by simpa using he⟩
            have HX := Lib.hid (addX_there HO.out.1 HO.out.2 ht).1
            clear hcs hcell hno ht HO
            generalize xs[k] = x at *
            go_wp2_with (first 
    | ((with_reducible refine' Wl.out ?_; apply k_box (ty := 30) (y := (.tmp 2)) hS); (· exact .mk); clear hS; intro w5 b5 hS)
    | ((with_reducible refine' Wl.out ?_; apply k_alloc (ty := 30) (dst := some 9) hS); (· exact .mk); clear hS; intro w9 b9 hS)
    | ((with_reducible refine' Wl.out ?_; apply k_load hS); (· exact .mk))
    | ((with_reducible refine' Wl.out ?_; apply k_loads hS); (· exact .mk))
    | go_skip
    | ((with_reducible refine' Wl.out ?_; apply kg_load hS); iterate 2 (· exact .mk))
    | ((with_reducible refine' Wl.out ?_; apply kg_loads hS); iterate 2 (· exact .mk))
    | ((with_reducible refine' Wl.out ?_; refine' wg_case ?_ ?_) <;> (intro hgW; (try (have hg2 := hgW; simp [go_sem] at hg2)); (first | (exfalso; assumption) | ((with_reducible refine' Wl.out ?_; apply k_no hgW)) | ((with_reducible refine' Wl.out ?_; apply kg_load hS ⟨hgW⟩); (· exact .mk)) | ((with_reducible refine' Wl.out ?_; apply kg_loads hS ⟨hgW⟩); (· exact .mk))); clear hgW))
    | ((with_reducible refine' Wl.out ?_; apply k_stores hS); (· exact .mk); clear hS; intro ws hS))
            go_ret2
            exact ⟨_, m, rfl, ⟨none, 0, by rw [HX.out]; unfold raddL; rw [HX.out]; rfl, by unfold raddL; rw [HX.out]; exact Lay.nil_rd _ _⟩, hS.done⟩
          · have hN : Hid (∀ y ∈ xs.take (k + 1), y.id ≠ i) := fun y hy => by
              rw [List.take_succ_eq_append_getElem hlt] at hy
              rcases List.mem_append.1 hy with hy | hy
              · exact hno.out y hy
              · simp at hy; subst hy; exact he
            clear hcs hcell hno
            generalize xs[k] = x at *
            go_wp2_with (first 
    | ((with_reducible refine' Wl.out ?_; apply k_box (ty := 30) (y := (.tmp 2)) hS); (· exact .mk); clear hS; intro w5 b5 hS)
    | ((with_reducible refine' Wl.out ?_; apply k_alloc (ty := 30) (dst := some 9) hS); (· exact .mk); clear hS; intro w9 b9 hS)
    | ((with_reducible refine' Wl.out ?_; apply k_load hS); (· exact .mk))
    | ((with_reducible refine' Wl.out ?_; apply k_loads hS); (· exact .mk))
    | go_skip
    | ((with_reducible refine' Wl.out ?_; apply kg_load hS); iterate 2 (· exact .mk))
    | ((with_reducible refine' Wl.out ?_; apply kg_loads hS); iterate 2 (· exact .mk))
    | ((with_reducible refine' Wl.out ?_; refine' wg_case ?_ ?_) <;> (intro hgW; (try (have hg2 := hgW; simp [go_sem] at hg2)); (first | (exfalso; assumption) | ((with_reducible refine' Wl.out ?_; apply k_no hgW)) | ((with_reducible refine' Wl.out ?_; apply kg_load hS ⟨hgW⟩); (· exact .mk)) | ((with_reducible refine' Wl.out ?_; apply kg_loads hS ⟨hgW⟩); (· exact .mk))); clear hgW))
    | ((with_reducible refine' Wl.out ?_; apply k_stores hS); (· exact .mk); clear hS; intro ws hS))
            go_roundw
            case rel => exact ⟨k + 1, hlt, by go_num, hN, hS.forget (x := .box b9 _) (by (repeat constructor))⟩
            case measure => (simp [intOf]; try omega)
        · obtain rfl : k = xs.length := by omega
          rw [List.take_length] at hno
          have ht : xs.any (fun x => decide (x.id = (⟨d, i⟩ : Hit).id)) = false := List.any_eq_false.2 fun x hx => by simpa using hno.out x hx
          have HX := Lib.hid (addX_ok HO.out.1 HO.out.2 ht).1
          have HIN : Hid (HitsIn (xs ++ [⟨d, i⟩])) := fun y hy => by
            rcases List.mem_append.1 hy with hy | hy
            · exact hits_in HL.out y hy
            · simp at hy; subst hy; exact HD.out
          have HLL : Hid ((xs ++ [(⟨d, i⟩ : Hit)]).length = xs.length + 1) := by show _ = _; simp
          have HSL : Hid ((srt (xs ++ [(⟨d, i⟩ : Hit)])).length = xs.length + 1) := by show _ = _; rw [srt_length]; simp
          clear hno ht HO
          go_wp2_with fail
          replace hS := hS.drew
          refine startL (S := Sx _ [(b5, _)]) (by kernel_rfl) (hS.sx0.cons hS (by (repeat constructor))) (fun _ _ _ _ => trivial) (fun hHeld => ?_)
          focus (refine takeN 0 (v := ?_) rfl (by kernel_rfl) ?_ ?_; rotate_left; focus (intro w hSw; clear hSw; go_simp; try with_reducible rfl))
          try simp only [Act.put, nz1, nz2, nz3]
          refine takeN 2 rfl (by kernel_rfl) (yield_loads rfl rowT30 rfl (by (first | (apply FindsX.box; (· (repeat constructor)); (· (repeat constructor)); done) | (refine FindsX.mem (by assumption) ?_; first | rfl | assumption | (simp; done))))) ?_
          try simp only [Act.put, nz1, nz2, nz3]
          refine wpAnyH_ready (rs := [1, 3]) (by kernel_rfl) (by simp) ?_
          refine consL 1 rfl (fun K hK => ?_) (consL 3 rfl (fun K hK => ?_) AllReadyH.nil)
          rotate_right
          focus
            (with_reducible apply s_lit el_hit hS (cs := [.int .i64 d, .int .i64 i])); (· decide); (· decide); (· kernel_rfl); clear hS; intro w35 b35 hS
            refine hK.out _ _ (by first | exact (hS.sx0.cons hS (by (repeat constructor))) | exact Sx.le (by assumption) (hS.sx0.cons hS (by (repeat constructor)))) (fun hHeld => ?_)
            clear hK K
            try simp only [Act.put, nz1, nz2, nz3]
            refine wpAnyH_ready (rs := [1]) (by kernel_rfl) (by simp) ?_
            refine consL 1 rfl (fun K hK => ?_) AllReadyH.nil
            (with_reducible apply s_appH_nil hS); (· exact rfl); (· exact rfl); (· exact HL.out); (· exact rfl); clear hS; intro w33 q33 c33 hS
            refine hK.out _ _ (by first | exact (hS.sx0.cons hS (by (repeat constructor))) | exact Sx.le (by assumption) (hS.sx0.cons hS (by (repeat constructor)))) (fun hHeld => ?_)
            clear hK K
            try simp only [Act.put, nz1, nz2, nz3]
            refine wpAnyH_ready (rs := [4]) (by kernel_rfl) (by simp) ?_
            refine consL 4 rfl (fun K hK => ?_) AllReadyH.nil
            (with_reducible apply s_appH1 (d := d) (i := i) hS); (· exact rfl); (· (repeat constructor)); (· exact rfl); (· (repeat constructor)); (· omega); clear hS; intro w36 q36 c36 hS
            refine hK.out _ _ (by first | exact (hS.sx0.cons hS (by (repeat constructor))) | exact Sx.le (by assumption) (hS.sx0.cons hS (by (repeat constructor)))) (fun hHeld => ?_)
            clear hK K
            try simp only [Act.put, nz1, nz2, nz3]
            refine wpAnyH_ready (rs := [5]) (by kernel_rfl) (by simp) ?_
            refine consL 5 rfl (fun K hK => ?_) AllReadyH.nil
            rw [if_pos (by rfl)]; go_simp; obtain ⟨m2, hS2, hle2, hrd2⟩ := St.settleH (hS.front (x := rowQ q36 c36 (xs.length + 1) _) (by (repeat constructor))) HLL.out HIN.out (by omega); refine (order16_c m2 _ hS2.inw _ _ hrd2 (by rw [HLL.out]; omega)).mono ?_; rintro e' w37 ⟨_, m37, rfl, ⟨q37, c37, rfl, R37⟩, hk37⟩; have hle := hle2.trans hk37.le; replace hS := hS2.call hk37; clear hk37; go_wp2_with fail
            refine hK.out _ _ (by first | exact (hS.sx0.cons hS (by (repeat constructor))) | exact Sx.le (by assumption) (hS.sx0.cons hS (by (repeat constructor)))) (fun hHeld => ?_)
            clear hK K
            try simp only [Act.put, nz1, nz2, nz3]
            focus (refine takeN 6 (v := ?_) rfl (by kernel_rfl) ?_ ?_; rotate_left; focus (intro w hSw; clear hSw; go_simp; try with_reducible rfl))
            try simp only [Act.put, nz1, nz2, nz3]
            refine wpAnyH_done (by kernel_rfl) ?_ _
            refine NoPanic.normal ?_
          rotate_right
          focus
            (with_reducible apply s_appH_nil hS); (· exact rfl); (· exact rfl); (· exact HL.out); (· exact rfl); clear hS; intro w33 q33 c33 hS
            refine hK.out _ _ (by first | exact (hS.sx0.cons hS (by (repeat constructor))) | exact Sx.le (by assumption) (hS.sx0.cons hS (by (repeat constructor)))) (fun hHeld => ?_)
            clear hK K
            try simp only [Act.put, nz1, nz2, nz3]
            refine wpAnyH_ready (rs := [3]) (by kernel_rfl) (by simp) ?_
            refine consL 3 rfl (fun K hK => ?_) AllReadyH.nil
            (with_reducible apply s_lit el_hit hS (cs := [.int .i64 d, .int .i64 i])); (· decide); (· decide); (· kernel_rfl); clear hS; intro w35 b35 hS
            refine hK.out _ _ (by first | exact (hS.sx0.cons hS (by (repeat constructor))) | exact Sx.le (by assumption) (hS.sx0.cons hS (by (repeat constructor)))) (fun hHeld => ?_)
            clear hK K
            try simp only [Act.put, nz1, nz2, nz3]
            refine wpAnyH_ready (rs := [4]) (by kernel_rfl) (by simp) ?_
            refine consL 4 rfl (fun K hK => ?_) AllReadyH.nil
            (with_reducible apply s_appH1 (d := d) (i := i) hS); (· exact rfl); (· (repeat constructor)); (· exact rfl); (· (repeat constructor)); (· omega); clear hS; intro w36 q36 c36 hS
            refine hK.out _ _ (by first | exact (hS.sx0.cons hS (by (repeat constructor))) | exact Sx.le (by assumption) (hS.sx0.cons hS (by (repeat constructor)))) (fun hHeld => ?_)
            clear hK K
            try simp only [Act.put, nz1, nz2, nz3]
            refine wpAnyH_ready (rs := [5]) (by kernel_rfl) (by simp) ?_
            refine consL 5 rfl (fun K hK => ?_) AllReadyH.nil
            rw [if_pos (by rfl)]; go_simp; obtain ⟨m2, hS2, hle2, hrd2⟩ := St.settleH (hS.front (x := rowQ q36 c36 (xs.length + 1) _) (by (repeat constructor))) HLL.out HIN.out (by omega); refine (order16_c m2 _ hS2.inw _ _ hrd2 (by rw [HLL.out]; omega)).mono ?_; rintro e' w37 ⟨_, m37, rfl, ⟨q37, c37, rfl, R37⟩, hk37⟩; have hle := hle2.trans hk37.le; replace hS := hS2.call hk37; clear hk37; go_wp2_with fail
            refine hK.out _ _ (by first | exact (hS.sx0.cons hS (by (repeat constructor))) | exact Sx.le (by assumption) (hS.sx0.cons hS (by (repeat constructor)))) (fun hHeld => ?_)
            clear hK K
            try simp only [Act.put, nz1, nz2, nz3]
            focus (refine takeN 6 (v := ?_) rfl (by kernel_rfl) ?_ ?_; rotate_left; focus (intro w hSw; clear hSw; go_simp; try with_reducible rfl))
            try simp only [Act.put, nz1, nz2, nz3]
            refine wpAnyH_done (by kernel_rfl) ?_ _
            refine NoPanic.normal ?_
          all_goals
            rw [HSL.out] at R37 ⊢
            obtain ⟨kn, rfl⟩ : ∃ kn : Nat, K = (kn : Int) := ⟨K.toNat, by omega⟩
            obtain ⟨q5, c5, e5, hc5, hc6, _, hro⟩ := Lay.list_open (xs := srt (xs ++ [⟨d, i⟩])) (by rw [← HSL.out] at R37; exact R37)
            rw [HSL.out] at e5 hc5
            cases e5
            obtain ⟨b5', o5, cs5, rfl, _, _⟩ := hro.get 0 (by rw [HSL.out]; omega)
            have hc7 : c37 ≤ 9223372036854775807 := by simp only [maxLen] at hc6; omega
            have HRR := Lib.hid R37
            clear hro R37 hc6
            by_cases hbig : (kn : Int) < (xs.length : Int) + 1
            · have hkc : (kn : Int) ≤ c37 := by omega
              have hN : Hid (raddL xs kn ⟨d, i⟩ = (srt (xs ++ [⟨d, i⟩])).take kn) := by show _ = _; unfold raddL near; rw [if_pos HX.out]; simp
              have hT := Lib.hid (rdL_take HRR.out kn (by omega))
              have hTL : Hid (((srt (xs ++ [⟨d, i⟩])).take kn).length = kn) := by show _ = _; rw [List.length_take, HSL.out]; omega
              go_wp2_with fail
              go_ret2
              exact ⟨_, _, rfl, ⟨_, c37, by rw [HX.out, hN.out, hTL.out]; rfl, by rw [hN.out, hTL.out]; exact hT.out⟩, hS.done⟩
            · have hb2 : xs.length + 1 ≤ ((kn : Int)).toNat := by omega
              have hN : Hid (raddL xs kn ⟨d, i⟩ = srt (xs ++ [⟨d, i⟩])) := by
                show _ = _
                unfold raddL near
                rw [if_pos HX.out, List.take_of_length_le (by rw [HSL.out]; exact hb2)]
              clear hb2
              go_wp2_with fail
              go_ret2
              exact ⟨_, _, rfl, ⟨_, c37, by rw [HX.out, hN.out, HSL.out]; rfl, by rw [hN.out, HSL.out]; exact HRR.out⟩, hS.done⟩
    · have ho : decide (fineH ⟨d, i⟩) = false := decide_eq_false hfine
      have HX := Lib.hid (addX_bad (l := xs) (k := K) (h := ⟨d, i⟩) (fun hh => hfine hh.2)).1
      clear hfine hok
      go_enter Try.func17, Try.ntmps17
      go_wp2_with (first 
    | ((with_reducible refine' Wl.out ?_; apply k_box (ty := 30) (y := (.tmp 2)) hS); (· exact .mk); clear hS; intro w5 b5 hS)
    | ((with_reducible refine' Wl.out ?_; apply k_alloc (ty := 30) (dst := some 9) hS); (· exact .mk); clear hS; intro w9 b9 hS)
    | ((with_reducible refine' Wl.out ?_; apply k_load hS); (· exact .mk))
    | ((with_reducible refine' Wl.out ?_; apply k_loads hS); (· exact .mk))
    | go_skip
    | ((with_reducible refine' Wl.out ?_; apply kg_load hS); iterate 2 (· exact .mk))
    | ((with_reducible refine' Wl.out ?_; apply kg_loads hS); iterate 2 (· exact .mk))
    | ((with_reducible refine' Wl.out ?_; refine' wg_case ?_ ?_) <;> (intro hgW; (try (have hg2 := hgW; simp [go_sem] at hg2)); (first | (exfalso; assumption) | ((with_reducible refine' Wl.out ?_; apply k_no hgW)) | ((with_reducible refine' Wl.out ?_; apply kg_load hS ⟨hgW⟩); (· exact .mk)) | ((with_reducible refine' Wl.out ?_; apply kg_loads hS ⟨hgW⟩); (· exact .mk))); clear hgW))
    | ((with_reducible refine' Wl.out ?_; apply k_stores hS); (· exact .mk); clear hS; intro ws hS)
        | (go_at_call 22; refine (rcheck16_c m _ hS.inw _ xs HL.out K hK).mono ?_; rintro e' w12 ⟨_, m12, rfl, hv12, hk12⟩; replace hS := hS.grow (grownBy_of_below hk12.below); clear hk12; rw [hc] at hv12; subst hv12)
        | (go_at_call 40; refine (may_v m _ hS.inw _ _).mono ?_; rintro e' w17 ⟨_, m17, rfl, hv17, hk17⟩; replace hS := hS.grow (grownBy_of_below hk17.below); clear hk17; rw [ho] at hv17; subst hv17))
      go_ret2
      exact ⟨_, m, rfl, ⟨none, 0, by rw [HX.out]; unfold raddL; rw [HX.out]; rfl, by unfold raddL; rw [HX.out]; exact Lay.nil_rd _ _⟩, hS.done⟩
  · have hc : chkE xs K = 1 := if_neg hok
    have HX := Lib.hid (addX_bad (l := xs) (k := K) (h := ⟨d, i⟩) (fun hh => hok hh.1)).1
    clear hok
    go_enter Try.func17, Try.ntmps17
    go_wp2_with (first 
    | ((with_reducible refine' Wl.out ?_; apply k_box (ty := 30) (y := (.tmp 2)) hS); (· exact .mk); clear hS; intro w5 b5 hS)
    | ((with_reducible refine' Wl.out ?_; apply k_alloc (ty := 30) (dst := some 9) hS); (· exact .mk); clear hS; intro w9 b9 hS)
    | ((with_reducible refine' Wl.out ?_; apply k_load hS); (· exact .mk))
    | ((with_reducible refine' Wl.out ?_; apply k_loads hS); (· exact .mk))
    | go_skip
    | ((with_reducible refine' Wl.out ?_; apply kg_load hS); iterate 2 (· exact .mk))
    | ((with_reducible refine' Wl.out ?_; apply kg_loads hS); iterate 2 (· exact .mk))
    | ((with_reducible refine' Wl.out ?_; refine' wg_case ?_ ?_) <;> (intro hgW; (try (have hg2 := hgW; simp [go_sem] at hg2)); (first | (exfalso; assumption) | ((with_reducible refine' Wl.out ?_; apply k_no hgW)) | ((with_reducible refine' Wl.out ?_; apply kg_load hS ⟨hgW⟩); (· exact .mk)) | ((with_reducible refine' Wl.out ?_; apply kg_loads hS ⟨hgW⟩); (· exact .mk))); clear hgW))
    | ((with_reducible refine' Wl.out ?_; apply k_stores hS); (· exact .mk); clear hS; intro ws hS)
      | (go_at_call 22; refine (rcheck16_c m _ hS.inw _ xs HL.out K hK).mono ?_; rintro e' w12 ⟨_, m12, rfl, hv12, hk12⟩; replace hS := hS.grow (grownBy_of_below hk12.below); clear hk12; rw [hc] at hv12; subst hv12))
    go_ret2
    exact ⟨_, m, rfl, ⟨none, 0, by rw [HX.out]; unfold raddL; rw [HX.out]; rfl, by unfold raddL; rw [HX.out]; exact Lay.nil_rd _ _⟩, hS.done⟩
end Go.Proofs.Ytlkdjmpkapeppaa
