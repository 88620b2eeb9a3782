/- slices.Index at numbers; slots.Put. -/
import Derived.Test.YtnbhhdncbajkgaaGreatDoorSl4G
import Derived.Test.YtnbhhdncbajkgaaGreatDoorPs1G
namespace Go.Proofs.YtnbhhdncbajkgaaGreatDoor
set_option linter.unusedVariables false
set_option linter.unusedSimpArgs false
open Go.RowKit Go.Shelf
/-- Where a number is, first; -1: nowhere. -/
def IdxR (xs : List Int) (x I : Int) : Prop := (I = -1 ∧ ∀ j, j < xs.length → xs.getD j 0 ≠ x) ∨ ∃ i : Nat, I = i ∧ i < xs.length ∧ xs.getD i 0 = x
set_option maxRecDepth 100000 in
set_option maxHeartbeats 4000000 in
theorem sindex_c (m : Mem) (w : World) (hm : m.In w) (v : Value) (xs : List Int) (hr : i64L.list.rd m [v] xs) (x : Int) :
    Calls Tryz.prog 54 #[v, .int .i64 x] w (Ret w m fun v _ => ∃ I, v = .int .i64 I ∧ Hid (IdxR xs x I)) := by
  have hS := St.start hm
  obtain ⟨p, c, rfl, _, a2, _, ra⟩ := Lay.list_open hr
  have HA := Lib.hid ra
  have hla : xs.length ≤ 9223372036854775807 := by simp only [maxLen] at a2; omega
  clear hr ra a2
  go_enter Tryz.func54, Tryz.ntmps54
  go_wp2_with fail
  go_loopw [8] (fun i wr => ∃ k : Nat, k ≤ xs.length ∧ i = .int .i64 k ∧ Hid (∀ j, j < k → xs.getD j 0 ≠ x) ∧ St [] w m wr [] m) (fun i _ => xs.length - (intOf i).toNat)
  case atStart => exact ⟨0, Nat.zero_le _, rfl, fun j hj => by omega, hS⟩
  case round =>
    clear hS
    obtain ⟨k, hk, rfl, hP, hS⟩ := hrel
    by_cases hlt : k < xs.length
    · obtain ⟨b1, o1, rfl, hcx, _⟩ := HA.out.intAt k hlt
      have hka : (k : Int) < xs.length := by omega
      have hN : Hid (xs.getD k 0 ≠ x → ∀ j, j < k + 1 → xs.getD j 0 ≠ x) := fun h j hj => by
        by_cases e : j = k
        · rw [e]; exact h
        · exact hP.out j (by omega)
      have hY : Hid (xs.getD k 0 = x → IdxR xs x k) := fun h => .inr ⟨k, rfl, hlt, h⟩
      clear hP
      generalize xs.getD k 0 = y at *
      by_cases e1 : y = x
      · have HY := Lib.hid (hY.out e1)
        have hxy : (x == y) = true := by simp [e1]
        clear e1 hN hY
        go_wp2_with (first
    | ((with_reducible refine' Wl.out ?_; apply k_load hS); (· exact .mk)))
        go_ret
        exact ⟨_, m, rfl, ⟨_, rfl, HY⟩, hS⟩
      · have HN := Lib.hid (hN.out e1)
        have hxy : (x == y) = false := by simp; exact fun h => e1 h.symm
        clear e1 hN hY
        go_wp2_with (first
    | ((with_reducible refine' Wl.out ?_; apply k_load hS); (· exact .mk)))
        go_roundw
        case rel => exact ⟨k + 1, hlt, by go_num, HN, hS⟩
        case measure => simp [intOf]; omega
    · obtain rfl : k = xs.length := by omega
      have hka : ¬ ((xs.length : Int) < xs.length) := by omega
      have HN : Hid (IdxR xs x (-1)) := .inl ⟨rfl, hP.out⟩
      clear hP
      go_wp2_with fail
      go_ret
      exact ⟨_, m, rfl, ⟨_, rfl, HN⟩, hS⟩
theorem fiE_no {s : Sl} {z : Int} (h : fiE s z = 1) : ¬ (dirOK s ∧ 0 ≤ z ∧ z ≤ 2147483647) := by
  intro hh
  unfold fiE at h
  rw [if_pos hh] at h
  split at h <;> cases h
theorem fiE_five {s : Sl} {z : Int} (h : fiE s z = 5) : dirOK s ∧ dirF s s.ids.length z = none := by
  unfold fiE at h
  split at h
  · rename_i hh
    split at h
    · cases h
    · rename_i h2
      refine ⟨hh.1, ?_⟩
      cases hq : dirF s s.ids.length z with
      | none => rfl
      | some y => rw [hq] at h2; exact absurd rfl h2
  · cases h
theorem fiE_of (s : Sl) (z : Int) : fiE s z = 0 ∨ fiE s z = 1 ∨ fiE s z = 5 := by
  unfold fiE
  split
  · split
    · exact .inl rfl
    · exact .inr (.inr rfl)
  · exact .inr (.inl rfl)
def PutQ (s : Sl) (z : Int) (v : List Int) (r : Value) (m' : Mem) : Prop :=
  ∃ I T E p1 d1 p2 d2, Hid (PutRel s z v T E) ∧ r = .tuple #[.int .i64 I, .agg #[.int .i64 T.dim, .slice p1 T.ids.length d1, .slice p2 T.vecs.length d2], .int .i64 E] ∧ Hid (slL.rd m' [.int .i64 T.dim, .slice p1 T.ids.length d1, .slice p2 T.vecs.length d2] T)
set_option maxRecDepth 100000 in
set_option maxHeartbeats 4000000 in
theorem sput_c (m : Mem) (w : World) (hm : m.In w) (q1 q2 : Option Addr) (c1 c2 : Nat) (s : Sl) (h : slL.rd m [.int .i64 s.dim, .slice q1 s.ids.length c1, .slice q2 s.vecs.length c2] s) (z : Int) (hz : InK .i64 z) (qv : Option Addr) (cv : Nat) (v : List Int) (hv : vecL.rd m [.slice qv v.length cv] v) :
    Calls Tryz.prog 22 #[.agg #[.int .i64 s.dim, .slice q1 s.ids.length c1, .slice q2 s.vecs.length c2], .int .i64 z, .slice qv v.length cv] w (Ret w m (PutQ s z v)) := by
  have hS := St.start hm
  have A0 := Lib.hid h
  have HZ := Lib.hid hz
  have HV := Lib.hid hv
  have HIds : Hid (i64L.list.rd m [.slice q1 s.ids.length c1] s.ids) := by obtain ⟨_, _, _, _, e, _, h1, _⟩ := slL_open h; cases e; exact h1
  clear h hz hv
  by_cases hbad : fiE s z = 1 ∨ (fiE s z ≠ 1 ∧ ¬ fitsV s.dim v)
  · have hR : Hid (PutRel s z v ⟨0, [], []⟩ 1) := .inl ⟨rfl, fun hh => by
      rcases hbad with h1 | ⟨_, h2⟩
      · exact fiE_no h1 ⟨hh.1, hh.2.1⟩
      · exact h2 hh.2.2⟩
    have hx : fiE s z = 1 ∨ ((fiE s z == 1) = false ∧ decide (fitsV s.dim v) = false) := by
      rcases hbad with h1 | ⟨h1, h2⟩
      · exact .inl h1
      · exact .inr ⟨by simpa using h1, decide_eq_false h2⟩
    clear hbad
    rcases hx with hx | ⟨hx, hf⟩
    · have HF := Lib.hid hx
      clear hx
      go_enter Tryz.func22, Tryz.ntmps22
      go_wp2_with (first
    | ((with_reducible refine' Wl.out ?_; apply k_box hS); (· exact .mk); clear hS; intro _ _ hS)
    | ((with_reducible refine' Wl.out ?_; apply k_alloc hS); (· exact .mk); clear hS; intro _ _ hS)
    | ((with_reducible refine' Wl.out ?_; apply k_load hS); (· exact .mk))
    | ((with_reducible refine' Wl.out ?_; apply k_loads hS); (· exact .mk))
    | go_skip
    | ((with_reducible refine' Wl.out ?_; apply kg_load hS); iterate 2 (· exact .mk))
    | ((with_reducible refine' Wl.out ?_; apply kg_loads hS); iterate 2 (· exact .mk))
    | ((with_reducible refine' Wl.out ?_; refine' wg_case ?_ ?_) <;> (intro hgW; (try (have hg2 := hgW; simp [go_sem] at hg2)); (first | (exfalso; assumption) | ((with_reducible refine' Wl.out ?_; apply k_no hgW)) | ((with_reducible refine' Wl.out ?_; apply kg_load hS ⟨hgW⟩); (· exact .mk)) | ((with_reducible refine' Wl.out ?_; apply kg_loads hS ⟨hgW⟩); (· exact .mk))); clear hgW))
    | ((with_reducible refine' Wl.out ?_; apply k_stores hS); (· exact .mk); clear hS; intro ws hS)
        | (go_at_call 40; refine (sfind_c m _ hS.inw _ _ _ s A0.out z HZ.out).mono ?_; rintro e' w14 ⟨_, m14, rfl, rfl, hk⟩; replace hS := hS.grow (grownBy_of_below hk.below); clear hk; rw [HF.out]))
      refine ret_cell_tmp3 (n := 3) Tryz.results22 rfl hS (by (repeat constructor)) (by rfl) slRow rfl ?_
      exact ⟨_, m, rfl, ⟨0, ⟨0, [], []⟩, 1, none, 0, none, 0, hR, rfl, sl_nil m⟩, hS.done⟩
    · have HFi := Lib.hid hf
      obtain ⟨F, hFe⟩ : ∃ F, fiE s z = F := ⟨_, rfl⟩
      rw [hFe] at hx
      have HFE := Lib.hid hFe
      clear hf hFe
      go_enter Tryz.func22, Tryz.ntmps22
      go_wp2_with (first
    | ((with_reducible refine' Wl.out ?_; apply k_box hS); (· exact .mk); clear hS; intro _ _ hS)
    | ((with_reducible refine' Wl.out ?_; apply k_alloc hS); (· exact .mk); clear hS; intro _ _ hS)
    | ((with_reducible refine' Wl.out ?_; apply k_load hS); (· exact .mk))
    | ((with_reducible refine' Wl.out ?_; apply k_loads hS); (· exact .mk))
    | go_skip
    | ((with_reducible refine' Wl.out ?_; apply kg_load hS); iterate 2 (· exact .mk))
    | ((with_reducible refine' Wl.out ?_; apply kg_loads hS); iterate 2 (· exact .mk))
    | ((with_reducible refine' Wl.out ?_; refine' wg_case ?_ ?_) <;> (intro hgW; (try (have hg2 := hgW; simp [go_sem] at hg2)); (first | (exfalso; assumption) | ((with_reducible refine' Wl.out ?_; apply k_no hgW)) | ((with_reducible refine' Wl.out ?_; apply kg_load hS ⟨hgW⟩); (· exact .mk)) | ((with_reducible refine' Wl.out ?_; apply kg_loads hS ⟨hgW⟩); (· exact .mk))); clear hgW))
    | ((with_reducible refine' Wl.out ?_; apply k_stores hS); (· exact .mk); clear hS; intro ws hS)
        | (go_at_call 40; refine (sfind_c m _ hS.inw _ _ _ s A0.out z HZ.out).mono ?_; rintro e' w14 ⟨_, m14, rfl, rfl, hk⟩; replace hS := hS.grow (grownBy_of_below hk.below); clear hk; rw [HFE.out])
        | (go_at_call 53; refine (fits_c m _ hS.inw _ _ _ _ v HV.out).mono ?_; rintro e' w23 ⟨_, m23, rfl, rfl, hk⟩; replace hS := hS.grow (grownBy_of_below hk.below); clear hk; rw [HFi.out]))
      refine ret_cell_tmp3 (n := 3) Tryz.results22 rfl hS (by (repeat constructor)) (by rfl) slRow rfl ?_
      exact ⟨_, m, rfl, ⟨0, ⟨0, [], []⟩, 1, none, 0, none, 0, hR, rfl, sl_nil m⟩, hS.done⟩
  · have hne : fiE s z ≠ 1 := fun e => hbad (.inl e)
    have hfit : fitsV s.dim v := Classical.byContradiction fun e => hbad (.inr ⟨hne, e⟩)
    have HFi : Hid (decide (fitsV s.dim v) = true) := decide_eq_true hfit
    have h05 : fiE s z = 0 ∨ fiE s z = 5 := by rcases fiE_of s z with h | h | h; exact .inl h; exact absurd h hne; exact .inr h
    clear hbad hne hfit
    rcases h05 with he | he
    · obtain ⟨hd, i, hi, e1, e2, e3⟩ := fiE_ok he
      have hi2 : i < s.vecs.length := by rw [hd.2.2.1]; exact hi
      have HI := Lib.hid e1
      have HF := Lib.hid he
      have HR : Hid (∀ T, T = withS s i z v → PutRel s z v T 0) := fun T hT => .inr (.inr ⟨rfl, hd, i, hi, .inl e2, hT⟩)
      clear he e1 e2 e3 hd
      go_enter Tryz.func22, Tryz.ntmps22
      go_wp2_with (first
    | ((with_reducible refine' Wl.out ?_; apply k_box hS); (· exact .mk); clear hS; intro _ _ hS)
    | ((with_reducible refine' Wl.out ?_; apply k_alloc hS); (· exact .mk); clear hS; intro _ _ hS)
    | ((with_reducible refine' Wl.out ?_; apply k_load hS); (· exact .mk))
    | ((with_reducible refine' Wl.out ?_; apply k_loads hS); (· exact .mk))
    | go_skip
    | ((with_reducible refine' Wl.out ?_; apply kg_load hS); iterate 2 (· exact .mk))
    | ((with_reducible refine' Wl.out ?_; apply kg_loads hS); iterate 2 (· exact .mk))
    | ((with_reducible refine' Wl.out ?_; refine' wg_case ?_ ?_) <;> (intro hgW; (try (have hg2 := hgW; simp [go_sem] at hg2)); (first | (exfalso; assumption) | ((with_reducible refine' Wl.out ?_; apply k_no hgW)) | ((with_reducible refine' Wl.out ?_; apply kg_load hS ⟨hgW⟩); (· exact .mk)) | ((with_reducible refine' Wl.out ?_; apply kg_loads hS ⟨hgW⟩); (· exact .mk))); clear hgW))
    | ((with_reducible refine' Wl.out ?_; apply k_stores hS); (· exact .mk); clear hS; intro ws hS)
        | (go_at_call 40; refine (sfind_c m _ hS.inw _ _ _ s A0.out z HZ.out).mono ?_; rintro e' w14 ⟨_, m14, rfl, rfl, hk⟩; replace hS := hS.grow (grownBy_of_below hk.below); clear hk; rw [HI.out, HF.out])
        | (go_at_call 53; refine (fits_c m _ hS.inw _ _ _ _ v HV.out).mono ?_; rintro e' w23 ⟨_, m23, rfl, rfl, hk⟩; replace hS := hS.grow (grownBy_of_below hk.below); clear hk; rw [HFi.out])
        | (go_at_call 55; refine (with_c m _ hS.inw _ _ _ _ s A0.out i hi hi2 z HZ.out _ v HV.out).mono ?_; rintro e' w41 ⟨_, m41, rfl, ⟨T, p1, d1, p2, d2, hT, rfl, hrd⟩, hk⟩; replace hS := hS.call hk; clear hk))
      refine ret_cell_tmp3 (n := 3) Tryz.results22 rfl hS (by (repeat constructor)) (by rfl) slRow rfl ?_
      exact ⟨_, m41, rfl, ⟨_, T, 0, p1, d1, p2, d2, HR.out T hT.out, rfl, hrd⟩, hS.done⟩
    · obtain ⟨hd, hno⟩ := fiE_five he
      have HF := Lib.hid he
      have hvl : s.vecs.length = s.ids.length := hd.2.2.1
      by_cases hfull : ∀ j, j < s.ids.length → s.ids.getD j 0 ≠ -1
      · have HFull := Lib.hid hfull
        have HR : Hid (PutRel s z v ⟨0, [], []⟩ 7) := .inr (.inl ⟨rfl, hd, hno, hfull⟩)
        clear he hd hno hfull hvl
        go_enter Tryz.func22, Tryz.ntmps22
        go_wp2_with (first
    | ((with_reducible refine' Wl.out ?_; apply k_box hS); (· exact .mk); clear hS; intro _ _ hS)
    | ((with_reducible refine' Wl.out ?_; apply k_alloc hS); (· exact .mk); clear hS; intro _ _ hS)
    | ((with_reducible refine' Wl.out ?_; apply k_load hS); (· exact .mk))
    | ((with_reducible refine' Wl.out ?_; apply k_loads hS); (· exact .mk))
    | go_skip
    | ((with_reducible refine' Wl.out ?_; apply kg_load hS); iterate 2 (· exact .mk))
    | ((with_reducible refine' Wl.out ?_; apply kg_loads hS); iterate 2 (· exact .mk))
    | ((with_reducible refine' Wl.out ?_; refine' wg_case ?_ ?_) <;> (intro hgW; (try (have hg2 := hgW; simp [go_sem] at hg2)); (first | (exfalso; assumption) | ((with_reducible refine' Wl.out ?_; apply k_no hgW)) | ((with_reducible refine' Wl.out ?_; apply kg_load hS ⟨hgW⟩); (· exact .mk)) | ((with_reducible refine' Wl.out ?_; apply kg_loads hS ⟨hgW⟩); (· exact .mk))); clear hgW))
    | ((with_reducible refine' Wl.out ?_; apply k_stores hS); (· exact .mk); clear hS; intro ws hS)
          | (go_at_call 40; refine (sfind_c m _ hS.inw _ _ _ s A0.out z HZ.out).mono ?_; rintro e' w14 ⟨_, m14, rfl, rfl, hk⟩; replace hS := hS.grow (grownBy_of_below hk.below); clear hk; rw [HF.out])
          | (go_at_call 53; refine (fits_c m _ hS.inw _ _ _ _ v HV.out).mono ?_; rintro e' w23 ⟨_, m23, rfl, rfl, hk⟩; replace hS := hS.grow (grownBy_of_below hk.below); clear hk; rw [HFi.out])
          | (go_at_call 54; refine (sindex_c m _ hS.inw _ _ HIds.out _).mono ?_; rintro e' w32 ⟨_, m32, rfl, ⟨I, rfl, hIx⟩, hk⟩; replace hS := hS.grow (grownBy_of_below hk.below); clear hk; obtain rfl : I = -1 := (by rcases hIx.out with ⟨e, _⟩ | ⟨j, _, hj, hjd⟩; exact e; exact absurd hjd (HFull.out j hj)); clear hIx))
        refine ret_cell_tmp3 (n := 3) Tryz.results22 rfl hS (by (repeat constructor)) (by rfl) slRow rfl ?_
        exact ⟨_, m, rfl, ⟨0, ⟨0, [], []⟩, 7, none, 0, none, 0, HR, rfl, sl_nil m⟩, hS.done⟩
      · have HNf := Lib.hid hfull
        have HVl := Lib.hid hvl
        have HR : Hid (∀ i T, i < s.ids.length → s.ids.getD i 0 = -1 → T = withS s i z v → PutRel s z v T 0) := fun i T hi hid hT => .inr (.inr ⟨rfl, hd, i, hi, .inr ⟨hno, hid⟩, hT⟩)
        clear he hd hno hfull hvl
        go_enter Tryz.func22, Tryz.ntmps22
        go_wp2_with (first
    | ((with_reducible refine' Wl.out ?_; apply k_box hS); (· exact .mk); clear hS; intro _ _ hS)
    | ((with_reducible refine' Wl.out ?_; apply k_alloc hS); (· exact .mk); clear hS; intro _ _ hS)
    | ((with_reducible refine' Wl.out ?_; apply k_load hS); (· exact .mk))
    | ((with_reducible refine' Wl.out ?_; apply k_loads hS); (· exact .mk))
    | go_skip
    | ((with_reducible refine' Wl.out ?_; apply kg_load hS); iterate 2 (· exact .mk))
    | ((with_reducible refine' Wl.out ?_; apply kg_loads hS); iterate 2 (· exact .mk))
    | ((with_reducible refine' Wl.out ?_; refine' wg_case ?_ ?_) <;> (intro hgW; (try (have hg2 := hgW; simp [go_sem] at hg2)); (first | (exfalso; assumption) | ((with_reducible refine' Wl.out ?_; apply k_no hgW)) | ((with_reducible refine' Wl.out ?_; apply kg_load hS ⟨hgW⟩); (· exact .mk)) | ((with_reducible refine' Wl.out ?_; apply kg_loads hS ⟨hgW⟩); (· exact .mk))); clear hgW))
    | ((with_reducible refine' Wl.out ?_; apply k_stores hS); (· exact .mk); clear hS; intro ws hS)
          | (go_at_call 40; refine (sfind_c m _ hS.inw _ _ _ s A0.out z HZ.out).mono ?_; rintro e' w14 ⟨_, m14, rfl, rfl, hk⟩; replace hS := hS.grow (grownBy_of_below hk.below); clear hk; rw [HF.out])
          | (go_at_call 53; refine (fits_c m _ hS.inw _ _ _ _ v HV.out).mono ?_; rintro e' w23 ⟨_, m23, rfl, rfl, hk⟩; replace hS := hS.grow (grownBy_of_below hk.below); clear hk; rw [HFi.out])
          | (go_at_call 54; refine (sindex_c m _ hS.inw _ _ HIds.out _).mono ?_; rintro e' w32 ⟨_, m32, rfl, ⟨I, rfl, hIx⟩, hk⟩; replace hS := hS.grow (grownBy_of_below hk.below); clear hk; obtain ⟨i, rfl, hi, hid⟩ : ∃ i : Nat, I = i ∧ i < s.ids.length ∧ Hid (s.ids.getD i 0 = -1) := (by rcases hIx.out with ⟨_, e⟩ | ⟨j, ej, hj, hjd⟩; exact absurd e HNf.out; exact ⟨j, ej, hj, hjd⟩); clear hIx; have hi0 : ¬ ((i : Int) < 0) := (by omega); have hi2 : i < s.vecs.length := (by have := HVl.out; omega))
          | (go_at_call 55; refine (with_c m _ hS.inw _ _ _ _ s A0.out i hi hi2 z HZ.out _ v HV.out).mono ?_; rintro e' w41 ⟨_, m41, rfl, ⟨T, p1, d1, p2, d2, hT, rfl, hrd⟩, hk⟩; replace hS := hS.call hk; clear hk))
        refine ret_cell_tmp3 (n := 3) Tryz.results22 rfl hS (by (repeat constructor)) (by rfl) slRow rfl ?_
        exact ⟨_, m41, rfl, ⟨_, T, 0, p1, d1, p2, d2, HR.out i T hi hid.out hT.out, rfl, hrd⟩, hS.done⟩
end Go.Proofs.YtnbhhdncbajkgaaGreatDoor
