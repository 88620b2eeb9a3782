/- slots.Find, with, Del. -/
import Derived.Test.YtnbhhdncbajkgaaGreatDoorSc7G
import Derived.Test.YtnbhhdncbajkgaaGreatDoorG2
import Derived.Test.YtnbhhdncbajkgaaGreatDoorSa1G
namespace Go.Proofs.YtnbhhdncbajkgaaGreatDoor
set_option linter.unusedVariables false
set_option linter.unusedSimpArgs false
open Go.RowKit Go.Shelf
theorem ints_of {k : IntKind} {m : Mem} {cells : List Value} {xs : List Int} (h : CellsOf (Lay.int k) m cells xs) : cells = xs.map (.int k) ∧ ∀ x ∈ xs, InK k x := by
  obtain ⟨css, rfl, h2, h3⟩ := h
  induction xs generalizing css with
  | nil =>
    have : css = [] := List.eq_nil_of_length_eq_zero (by simpa using h2)
    subst this
    exact ⟨rfl, by simp⟩
  | cons x xs ih =>
    cases css with
    | nil => simp at h2
    | cons cs css =>
      obtain ⟨i1, i2⟩ := ih css (by simpa using h2) (fun i cs' x' a b => h3 (i + 1) cs' x' (by simpa using a) (by simpa using b))
      obtain ⟨e, k1⟩ := h3 0 cs x rfl rfl
      refine ⟨?_, fun y hy => ?_⟩
      · rw [List.flatten_cons, i1, e]; rfl
      · rcases List.mem_cons.1 hy with rfl | hy
        · exact k1
        · exact i2 y hy
theorem of_ints {k : IntKind} {m : Mem} : ∀ {xs : List Int}, (∀ x ∈ xs, InK k x) → CellsOf (Lay.int k) m (xs.map (.int k)) xs
  | [], _ => CellsOf.nil _ _
  | x :: xs, h => CellsOf.append (x1 := [x]) (c1 := [.int k x]) (CellsOf.one ⟨rfl, h x (by simp)⟩) (of_ints fun y hy => h y (by simp [hy]))
theorem el_ids : Elem Tryz.prog 29 2 1 8 (.int .i64 0) := ⟨Tryz.underlying29, by kernel_rfl, rfl, by decide⟩
set_option maxRecDepth 100000 in
set_option maxHeartbeats 2000000 in
theorem iclone_c (m : Mem) (w : World) (hm : m.In w) (v : Value) {xs} (h : i64L.list.rd m [v] xs) : Calls Tryz.prog 80 #[v] w (RetRow i64L 2 w m xs) := by
  have qn : ∀ (w : World) (a : Option Addr) (n c n' c' : Nat), (binOp .eql 29 (.slice a n c) (.slice none n' c')).run Tryz.prog w = .ok (.bool a.isNone) w := fun w a n c n' c' => Lib.run_eql_slice_nil w _ _ a n c n' c' Tryz.underlying29
  have HH := Lib.hid h
  obtain ⟨p, c, rfl, h1, h2, h3, h4⟩ := Lay.list_open h
  have hS := St.start hm
  cases p with
  | none =>
    have : xs = [] := by
      rcases Nat.eq_zero_or_pos xs.length with h0 | h0
      · exact List.eq_nil_of_length_eq_zero h0
      · obtain ⟨b, o, e, _⟩ := h4 h0; cases e
    subst this
    clear h h1 h2 h3 h4 HH
    go_enter Tryz.func80, Tryz.ntmps80
    go_wp2
    go_ret
    exact ⟨none, 0, [], rfl, CellsOf.nil _ _, hS.nilRow _ _⟩
  | some a =>
    have HB := Lib.hid h3
    clear h h1 h2 h3 h4
    go_enter Tryz.func80, Tryz.ntmps80
    go_wp2_with (first
      | ((with_reducible refine' Wl.out ?_; apply wl_lit0 el_ids hS); clear hS; intro w5 b5 hS)
      | ((with_reducible refine' Wl.out ?_; apply wl_append i64L el_ids hS (by decide)); (· exact rfl); (· (repeat constructor)); (· exact rfl); (· exact HH.out); (· rw [Nat.zero_add]; exact HB.out); clear hS; intro w7 q7 c7 news7 hc7 hS; simp only [Nat.zero_add, List.nil_append] at hS))
    go_ret
    exact ⟨q7, c7, news7, by simp, hc7, hS⟩
set_option maxRecDepth 100000 in
set_option maxHeartbeats 2000000 in
theorem vsclone_c (m : Mem) (w : World) (hm : m.In w) (v : Value) {xs} (h : vecL.list.rd m [v] xs) : Calls Tryz.prog 81 #[v] w (RetRow vecL 26 w m xs) := by
  have qn : ∀ (w : World) (a : Option Addr) (n c n' c' : Nat), (binOp .eql 30 (.slice a n c) (.slice none n' c')).run Tryz.prog w = .ok (.bool a.isNone) w := fun w a n c n' c' => Lib.run_eql_slice_nil w _ _ a n c n' c' Tryz.underlying30
  have HH := Lib.hid h
  obtain ⟨p, c, rfl, h1, h2, h3, h4⟩ := Lay.list_open h
  have hS := St.start hm
  cases p with
  | none =>
    have : xs = [] := by
      rcases Nat.eq_zero_or_pos xs.length with h0 | h0
      · exact List.eq_nil_of_length_eq_zero h0
      · obtain ⟨b, o, e, _⟩ := h4 h0; cases e
    subst this
    clear h h1 h2 h3 h4 HH
    go_enter Tryz.func81, Tryz.ntmps81
    go_wp2
    go_ret
    exact ⟨none, 0, [], rfl, CellsOf.nil _ _, hS.nilRow _ _⟩
  | some a =>
    have HB := Lib.hid h3
    clear h h1 h2 h3 h4
    go_enter Tryz.func81, Tryz.ntmps81
    go_wp2_with (first
      | ((with_reducible refine' Wl.out ?_; apply wl_lit0 el_vecs hS); clear hS; intro w5 b5 hS)
      | ((with_reducible refine' Wl.out ?_; apply wl_append vecL el_vecs hS (by decide)); (· exact rfl); (· (repeat constructor)); (· exact rfl); (· exact HH.out); (· rw [Nat.zero_add]; exact HB.out); clear hS; intro w7 q7 c7 news7 hc7 hS; simp only [Nat.zero_add, List.nil_append] at hS))
    go_ret
    exact ⟨q7, c7, news7, by simp, hc7, hS⟩
set_option maxRecDepth 100000 in
set_option maxHeartbeats 2000000 in
theorem svclone_c (m : Mem) (w : World) (hm : m.In w) (v : Value) {xs} (h : (Lay.int .i16).list.rd m [v] xs) : Calls Tryz.prog 31 #[v] w (RetRow (Lay.int .i16) 51 w m xs) := by
  have qn : ∀ (w : World) (a : Option Addr) (n c n' c' : Nat), (binOp .eql 26 (.slice a n c) (.slice none n' c')).run Tryz.prog w = .ok (.bool a.isNone) w := fun w a n c n' c' => Lib.run_eql_slice_nil w _ _ a n c n' c' Tryz.underlying26
  have HH := Lib.hid h
  obtain ⟨p, c, rfl, h1, h2, h3, h4⟩ := Lay.list_open h
  have hS := St.start hm
  cases p with
  | none =>
    have : xs = [] := by
      rcases Nat.eq_zero_or_pos xs.length with h0 | h0
      · exact List.eq_nil_of_length_eq_zero h0
      · obtain ⟨b, o, e, _⟩ := h4 h0; cases e
    subst this
    clear h h1 h2 h3 h4 HH
    go_enter Tryz.func31, Tryz.ntmps31
    go_wp2
    go_ret
    exact ⟨none, 0, [], rfl, CellsOf.nil _ _, hS.nilRow _ _⟩
  | some a =>
    have HB := Lib.hid h3
    clear h h1 h2 h3 h4
    go_enter Tryz.func31, Tryz.ntmps31
    go_wp2_with (first
      | ((with_reducible refine' Wl.out ?_; apply wl_lit0 el_vec hS); clear hS; intro w5 b5 hS)
      | ((with_reducible refine' Wl.out ?_; apply wl_append (Lay.int .i16) el_vec hS (by decide)); (· exact rfl); (· (repeat constructor)); (· exact rfl); (· exact HH.out); (· rw [Nat.zero_add]; exact HB.out); clear hS; intro w7 q7 c7 news7 hc7 hS; simp only [Nat.zero_add, List.nil_append] at hS))
    go_ret
    exact ⟨q7, c7, news7, by simp, hc7, hS⟩
theorem slRow : ∃ d, Tryz.prog.underlying 32 = some d ∧ d.isRow = true ∧ (Tryz.prog.info? 32).map (·.size) = some 3 := ⟨_, Tryz.underlying32, rfl, by kernel_rfl⟩
theorem vec_parts {m : Mem} {cells : List Value} {vs : List (List Int)} (h : CellsOf vecL m cells vs) (k : Nat) (hk : k < vs.length) : ∃ q c, vecL.rd m [.slice q (vs.getD k []).length c] (vs.getD k []) ∧ cells[k]? = some (.slice q (vs.getD k []).length c) ∧
    ∀ (m' : Mem) (v' : Value) (y : List Int), m.Le m' → vecL.rd m' [v'] y → CellsOf vecL m' (cells.set k v') (vs.set k y) := by
  have e : vs.getD k [] = vs[k] := by simp [List.getD, hk]
  rw [e]
  obtain ⟨css, rfl, h2, h3⟩ := h
  have hl := CellsOf.lens h2 h3
  have hk2 : css[k]? = some css[k] := List.getElem?_eq_getElem (by omega)
  have h1 := h3 k _ _ hk2 (List.getElem?_eq_getElem hk)
  have hone : css[k].length = 1 := vecL.len h1
  match hc : css[k], hone, h1 with
  | [v], _, h1 =>
    obtain ⟨q, c, rfl, _⟩ := Lay.list_open h1
    refine ⟨q, c, h1, ?_, fun m' v' y hle hr => ?_⟩
    · have := (flatten_get css hl).2 k _ 0 _ hk2 (by rw [hc]; rfl)
      simpa [vecL, Lay.list] using this
    · have hset : css.flatten.set k v' = (css.set k [v']).flatten := by
        have := flatten_set css k 0 v' _ hl hk2 (by decide)
        rw [hc] at this
        simpa [vecL, Lay.list] using this
      refine ⟨css.set k [v'], hset, by simpa using h2, fun i cs x hi hx => ?_⟩
      rw [List.getElem?_set] at hi hx
      by_cases e : k = i
      · subst e
        simp [show k < css.length by omega, hk] at hi hx
        subst hi hx
        exact hr
      · rw [if_neg e] at hi hx
        exact Lay.mono _ hle (h3 i cs x hi hx)
/-- Slots with something in one. -/
def withS (s : Sl) (i : Nat) (x : Int) (v : List Int) : Sl := ⟨s.dim, s.ids.set i x, s.vecs.set i v⟩
/-- Slots of the call's own. -/
def RetS (w : World) (m : Mem) (S : Sl) : Ending → World → Prop := Ret w m fun v m' => ∃ T p1 c1 p2 c2, Hid (T = S) ∧ v = .agg #[.int .i64 T.dim, .slice p1 T.ids.length c1, .slice p2 T.vecs.length c2] ∧ Hid (slL.rd m' [.int .i64 T.dim, .slice p1 T.ids.length c1, .slice p2 T.vecs.length c2] T)
set_option maxRecDepth 100000 in
set_option maxHeartbeats 4000000 in
theorem with_c (m : Mem) (w : World) (hm : m.In w) (q1 q2 : Option Addr) (c1 c2 : Nat) (s : Sl) (h : slL.rd m [.int .i64 s.dim, .slice q1 s.ids.length c1, .slice q2 s.vecs.length c2] s) (i : Nat) (hi : i < s.ids.length) (hi2 : i < s.vecs.length) (x : Int) (hx : InK .i64 x) (u : Value) (v : List Int) (hv : vecL.rd m [u] v) :
    Calls Tryz.prog 55 #[.agg #[.int .i64 s.dim, .slice q1 s.ids.length c1, .slice q2 s.vecs.length c2], .int .i64 i, .int .i64 x, u] w (RetS w m (withS s i x v)) := by
  have hS := St.start hm
  obtain ⟨_, _, _, _, e, hd, h1, h2⟩ := slL_open h
  cases e
  have HI := Lib.hid h1
  have HVS := Lib.hid h2
  have HU := Lib.hid hv
  obtain ⟨pu, cu, rfl, _⟩ := Lay.list_open hv
  have hml : s.vecs.length ≤ 9223372036854775807 := by
    obtain ⟨_, _, e, a1, a2, _⟩ := Lay.list_open h2
    cases e
    simp only [maxLen] at a2; omega
  have hb1 : Hid (s.ids.length * 8 ≤ 140737488355328) := by obtain ⟨_, _, e, _, _, h3, _⟩ := h1; cases e; exact h3
  have hb2 : Hid (s.vecs.length * 24 ≤ 140737488355328) := by obtain ⟨_, _, e, _, _, h3, _⟩ := h2; cases e; exact h3
  have HD := Lib.hid hd
  have HX := Lib.hid hx
  clear h h1 h2 hv hd hx
  go_enter Tryz.func55, Tryz.ntmps55
  go_wp2_with (first 
    | ((with_reducible refine' Wl.out ?_; apply k_box (ty := 32) (y := (.tmp 0)) hS); (· exact .mk); clear hS; intro w4 b4 hS)
    | ((with_reducible refine' Wl.out ?_; apply k_alloc (ty := 32) (dst := some 8) hS); (· exact .mk); clear hS; intro w8 b8 hS)
    | ((with_reducible refine' Wl.out ?_; apply k_load hS); (· exact .mk))
    | ((with_reducible refine' Wl.out ?_; apply k_loads hS); (· exact .mk))
    | ((with_reducible refine' Wl.out ?_; apply k_store hS); (· exact .mk); clear hS; intro ws hS)
    | ((with_reducible refine' Wl.out ?_; apply k_storeR hS); (· exact .mk); clear hS; intro ws hS)
    | ((with_reducible refine' Wl.out ?_; apply k_stores hS); (· exact .mk); clear hS; intro ws hS))
  replace hS := hS.drew
  refine startL (S := Sx _ []) (by kernel_rfl) hS.sx0 (fun _ _ _ _ => trivial) (fun hHeld => ?_)
  focus (refine takeN 0 (v := ?_) rfl (by kernel_rfl) ?_ ?_; rotate_left; focus (intro w hSw; clear hSw; go_simp; try with_reducible rfl))
  try simp only [Act.put, nz1, nz2, nz3]
  focus (refine takeN 3 (v := ?_) rfl (by kernel_rfl) ?_ ?_; rotate_left; focus (intro w hSw; clear hSw; go_simp; try with_reducible rfl))
  try simp only [Act.put, nz1, nz2, nz3]
  refine wpAnyH_ready (rs := [1, 4]) (by kernel_rfl) (by simp) ?_
  refine consL 1 rfl (fun K hK => ?_) (consL 4 rfl (fun K hK => ?_) AllReadyH.nil)
  rotate_right
  focus
    (with_reducible apply s_load hS); (· exact Tryz.underlying30); (· exact rfl); (· exact rfl); (· (first | (apply Find.box; (· (repeat constructor)); rfl) | exact Find.mem (by assumption) | (apply Find.row; (· (repeat constructor)); assumption)))
    refine hK.out _ _ (by first | exact hS.sx0 | exact Sx.le (by assumption) hS.sx0) (fun hHeld => ?_)
    clear hK K
    try simp only [Act.put, nz1, nz2, nz3]
    refine wpAnyH_ready (rs := [1]) (by kernel_rfl) (by simp) ?_
    refine consL 1 rfl (fun K hK => ?_) AllReadyH.nil
    (with_reducible apply s_load hS); (· exact Tryz.underlying29); (· exact rfl); (· exact rfl); (· (first | (apply Find.box; (· (repeat constructor)); rfl) | exact Find.mem (by assumption) | (apply Find.row; (· (repeat constructor)); assumption)))
    refine hK.out _ _ (by first | exact hS.sx0 | exact Sx.le (by assumption) hS.sx0) (fun hHeld => ?_)
    clear hK K
    try simp only [Act.put, nz1, nz2, nz3]
    refine wpAnyH_ready (rs := [2]) (by kernel_rfl) (by simp) ?_
    refine consL 2 rfl (fun K hK => ?_) AllReadyH.nil
    rw [if_pos (by rfl)]; go_simp; refine (iclone_c _ _ hS.inw _ HI.out).mono ?_; rintro e' w13 ⟨q13, c13, news13, rfl, hc13, hk13⟩; replace hS := hS.callOwn hk13; obtain ⟨rfl, hin13⟩ := ints_of hc13; clear hk13 hc13; go_wp2_with fail
    refine hK.out _ _ (by first | exact hS.sx0 | exact Sx.le (by assumption) hS.sx0) (fun hHeld => ?_)
    clear hK K
    try simp only [Act.put, nz1, nz2, nz3]
    focus (refine takeN 6 (v := ?_) rfl (by kernel_rfl) ?_ ?_; rotate_left; focus (intro w hSw; clear hSw; go_simp; try with_reducible rfl))
    try simp only [Act.put, nz1, nz2, nz3]
    refine wpAnyH_ready (rs := [5]) (by kernel_rfl) (by simp) ?_
    refine consL 5 rfl (fun K hK => ?_) AllReadyH.nil
    rw [if_pos (by rfl)]; go_simp; refine (vsclone_c _ _ hS.inw _ HVS.out).mono ?_; rintro e' w16 ⟨q16, c16, news16, rfl, hc16, hk16⟩; replace hS := hS.callOwn hk16; clear hk16; go_wp2_with fail
    refine hK.out _ _ (by first | exact hS.sx0 | exact Sx.le (by assumption) hS.sx0) (fun hHeld => ?_)
    clear hK K
    try simp only [Act.put, nz1, nz2, nz3]
    refine wpAnyH_ready (rs := [7]) (by kernel_rfl) (by simp) ?_
    refine consL 7 rfl (fun K hK => ?_) AllReadyH.nil
    (with_reducible apply s_store hS); (· exact rowT29); (· exact rfl); (· (first | (go_simp; done) | (go_simp; with_reducible rfl))); (· (first | rfl | assumption | (simp [Value.oneCell']; done))); (· (repeat constructor)); (· (repeat constructor)); (· (repeat constructor)); clear hS; intro ws hS
    refine hK.out _ _ (by first | exact hS.sx0 | exact Sx.le (by assumption) hS.sx0) (fun hHeld => ?_)
    clear hK K
    try simp only [Act.put, nz1, nz2, nz3]
    focus (refine takeN 8 (v := ?_) rfl (by kernel_rfl) ?_ ?_; rotate_left; focus (intro w hSw; clear hSw; go_simp; try with_reducible rfl))
    try simp only [Act.put, nz1, nz2, nz3]
    refine wpAnyH_ready (rs := [9]) (by kernel_rfl) (by simp) ?_
    refine consL 9 rfl (fun K hK => ?_) AllReadyH.nil
    (with_reducible apply s_store hS); (· exact rowT30); (· exact rfl); (· (first | (go_simp; done) | (go_simp; with_reducible rfl))); (· (first | rfl | assumption | (simp [Value.oneCell']; done))); (· (repeat constructor)); (· (repeat constructor)); (· (repeat constructor)); clear hS; intro ws hS
    refine hK.out _ _ (by first | exact hS.sx0 | exact Sx.le (by assumption) hS.sx0) (fun hHeld => ?_)
    clear hK K
    try simp only [Act.put, nz1, nz2, nz3]
    refine wpAnyH_done (by kernel_rfl) ?_ _
    refine NoPanic.normal ?_
  rotate_right
  focus
    (with_reducible apply s_load hS); (· exact Tryz.underlying29); (· exact rfl); (· exact rfl); (· (first | (apply Find.box; (· (repeat constructor)); rfl) | exact Find.mem (by assumption) | (apply Find.row; (· (repeat constructor)); assumption)))
    refine hK.out _ _ (by first | exact hS.sx0 | exact Sx.le (by assumption) hS.sx0) (fun hHeld => ?_)
    clear hK K
    try simp only [Act.put, nz1, nz2, nz3]
    refine wpAnyH_ready (rs := [2, 4]) (by kernel_rfl) (by simp) ?_
    refine consL 2 rfl (fun K hK => ?_) (consL 4 rfl (fun K hK => ?_) AllReadyH.nil)
    rotate_right
    focus
      (with_reducible apply s_load hS); (· exact Tryz.underlying30); (· exact rfl); (· exact rfl); (· (first | (apply Find.box; (· (repeat constructor)); rfl) | exact Find.mem (by assumption) | (apply Find.row; (· (repeat constructor)); assumption)))
      refine hK.out _ _ (by first | exact hS.sx0 | exact Sx.le (by assumption) hS.sx0) (fun hHeld => ?_)
      clear hK K
      try simp only [Act.put, nz1, nz2, nz3]
      refine wpAnyH_ready (rs := [2]) (by kernel_rfl) (by simp) ?_
      refine consL 2 rfl (fun K hK => ?_) AllReadyH.nil
      rw [if_pos (by rfl)]; go_simp; refine (iclone_c _ _ hS.inw _ HI.out).mono ?_; rintro e' w13 ⟨q13, c13, news13, rfl, hc13, hk13⟩; replace hS := hS.callOwn hk13; obtain ⟨rfl, hin13⟩ := ints_of hc13; clear hk13 hc13; go_wp2_with fail
      refine hK.out _ _ (by first | exact hS.sx0 | exact Sx.le (by assumption) hS.sx0) (fun hHeld => ?_)
      clear hK K
      try simp only [Act.put, nz1, nz2, nz3]
      focus (refine takeN 6 (v := ?_) rfl (by kernel_rfl) ?_ ?_; rotate_left; focus (intro w hSw; clear hSw; go_simp; try with_reducible rfl))
      try simp only [Act.put, nz1, nz2, nz3]
      refine wpAnyH_ready (rs := [5]) (by kernel_rfl) (by simp) ?_
      refine consL 5 rfl (fun K hK => ?_) AllReadyH.nil
      rw [if_pos (by rfl)]; go_simp; refine (vsclone_c _ _ hS.inw _ HVS.out).mono ?_; rintro e' w16 ⟨q16, c16, news16, rfl, hc16, hk16⟩; replace hS := hS.callOwn hk16; clear hk16; go_wp2_with fail
      refine hK.out _ _ (by first | exact hS.sx0 | exact Sx.le (by assumption) hS.sx0) (fun hHeld => ?_)
      clear hK K
      try simp only [Act.put, nz1, nz2, nz3]
      refine wpAnyH_ready (rs := [7]) (by kernel_rfl) (by simp) ?_
      refine consL 7 rfl (fun K hK => ?_) AllReadyH.nil
      (with_reducible apply s_store hS); (· exact rowT29); (· exact rfl); (· (first | (go_simp; done) | (go_simp; with_reducible rfl))); (· (first | rfl | assumption | (simp [Value.oneCell']; done))); (· (repeat constructor)); (· (repeat constructor)); (· (repeat constructor)); clear hS; intro ws hS
      refine hK.out _ _ (by first | exact hS.sx0 | exact Sx.le (by assumption) hS.sx0) (fun hHeld => ?_)
      clear hK K
      try simp only [Act.put, nz1, nz2, nz3]
      focus (refine takeN 8 (v := ?_) rfl (by kernel_rfl) ?_ ?_; rotate_left; focus (intro w hSw; clear hSw; go_simp; try with_reducible rfl))
      try simp only [Act.put, nz1, nz2, nz3]
      refine wpAnyH_ready (rs := [9]) (by kernel_rfl) (by simp) ?_
      refine consL 9 rfl (fun K hK => ?_) AllReadyH.nil
      (with_reducible apply s_store hS); (· exact rowT30); (· exact rfl); (· (first | (go_simp; done) | (go_simp; with_reducible rfl))); (· (first | rfl | assumption | (simp [Value.oneCell']; done))); (· (repeat constructor)); (· (repeat constructor)); (· (repeat constructor)); clear hS; intro ws hS
      refine hK.out _ _ (by first | exact hS.sx0 | exact Sx.le (by assumption) hS.sx0) (fun hHeld => ?_)
      clear hK K
      try simp only [Act.put, nz1, nz2, nz3]
      refine wpAnyH_done (by kernel_rfl) ?_ _
      refine NoPanic.normal ?_
    rotate_right
    focus
      rw [if_pos (by rfl)]; go_simp; refine (iclone_c _ _ hS.inw _ HI.out).mono ?_; rintro e' w13 ⟨q13, c13, news13, rfl, hc13, hk13⟩; replace hS := hS.callOwn hk13; obtain ⟨rfl, hin13⟩ := ints_of hc13; clear hk13 hc13; go_wp2_with fail
      refine hK.out _ _ (by first | exact hS.sx0 | exact Sx.le (by assumption) hS.sx0) (fun hHeld => ?_)
      clear hK K
      try simp only [Act.put, nz1, nz2, nz3]
      refine wpAnyH_ready (rs := [4]) (by kernel_rfl) (by simp) ?_
      refine consL 4 rfl (fun K hK => ?_) AllReadyH.nil
      (with_reducible apply s_load hS); (· exact Tryz.underlying30); (· exact rfl); (· exact rfl); (· (first | (apply Find.box; (· (repeat constructor)); rfl) | exact Find.mem (by assumption) | (apply Find.row; (· (repeat constructor)); assumption)))
      refine hK.out _ _ (by first | exact hS.sx0 | exact Sx.le (by assumption) hS.sx0) (fun hHeld => ?_)
      clear hK K
      try simp only [Act.put, nz1, nz2, nz3]
      focus (refine takeN 6 (v := ?_) rfl (by kernel_rfl) ?_ ?_; rotate_left; focus (intro w hSw; clear hSw; go_simp; try with_reducible rfl))
      try simp only [Act.put, nz1, nz2, nz3]
      refine wpAnyH_ready (rs := [5]) (by kernel_rfl) (by simp) ?_
      refine consL 5 rfl (fun K hK => ?_) AllReadyH.nil
      rw [if_pos (by rfl)]; go_simp; refine (vsclone_c _ _ hS.inw _ HVS.out).mono ?_; rintro e' w16 ⟨q16, c16, news16, rfl, hc16, hk16⟩; replace hS := hS.callOwn hk16; clear hk16; go_wp2_with fail
      refine hK.out _ _ (by first | exact hS.sx0 | exact Sx.le (by assumption) hS.sx0) (fun hHeld => ?_)
      clear hK K
      try simp only [Act.put, nz1, nz2, nz3]
      refine wpAnyH_ready (rs := [7]) (by kernel_rfl) (by simp) ?_
      refine consL 7 rfl (fun K hK => ?_) AllReadyH.nil
      (with_reducible apply s_store hS); (· exact rowT29); (· exact rfl); (· (first | (go_simp; done) | (go_simp; with_reducible rfl))); (· (first | rfl | assumption | (simp [Value.oneCell']; done))); (· (repeat constructor)); (· (repeat constructor)); (· (repeat constructor)); clear hS; intro ws hS
      refine hK.out _ _ (by first | exact hS.sx0 | exact Sx.le (by assumption) hS.sx0) (fun hHeld => ?_)
      clear hK K
      try simp only [Act.put, nz1, nz2, nz3]
      focus (refine takeN 8 (v := ?_) rfl (by kernel_rfl) ?_ ?_; rotate_left; focus (intro w hSw; clear hSw; go_simp; try with_reducible rfl))
      try simp only [Act.put, nz1, nz2, nz3]
      refine wpAnyH_ready (rs := [9]) (by kernel_rfl) (by simp) ?_
      refine consL 9 rfl (fun K hK => ?_) AllReadyH.nil
      (with_reducible apply s_store hS); (· exact rowT30); (· exact rfl); (· (first | (go_simp; done) | (go_simp; with_reducible rfl))); (· (first | rfl | assumption | (simp [Value.oneCell']; done))); (· (repeat constructor)); (· (repeat constructor)); (· (repeat constructor)); clear hS; intro ws hS
      refine hK.out _ _ (by first | exact hS.sx0 | exact Sx.le (by assumption) hS.sx0) (fun hHeld => ?_)
      clear hK K
      try simp only [Act.put, nz1, nz2, nz3]
      refine wpAnyH_done (by kernel_rfl) ?_ _
      refine NoPanic.normal ?_
  all_goals
    replace hS := ((hS.front (x := .box b4 _) (by (repeat constructor))).front (x := .row 26 _ _ _ _) (by (repeat constructor))).front (x := .row 2 _ _ _ _) (by (repeat constructor))
    have HC := Lib.hid hc16
    have HIn := Lib.hid hin13
    clear hc16 hin13
    go_wp2_with (first 
    | ((with_reducible refine' Wl.out ?_; apply k_box (ty := 32) (y := (.tmp 0)) hS); (· exact .mk); clear hS; intro w4 b4 hS)
    | ((with_reducible refine' Wl.out ?_; apply k_alloc (ty := 32) (dst := some 8) hS); (· exact .mk); clear hS; intro w8 b8 hS)
    | ((with_reducible refine' Wl.out ?_; apply k_load hS); (· exact .mk))
    | ((with_reducible refine' Wl.out ?_; apply k_loads hS); (· exact .mk))
    | ((with_reducible refine' Wl.out ?_; apply k_store hS); (· exact .mk); clear hS; intro ws hS)
    | ((with_reducible refine' Wl.out ?_; apply k_storeR hS); (· exact .mk); clear hS; intro ws hS)
    | ((with_reducible refine' Wl.out ?_; apply k_stores hS); (· exact .mk); clear hS; intro ws hS))
    go_loopw [22] (fun vi wr => ∃ (k : Nat) (cells : List Value) (m' : Mem), k ≤ s.vecs.length ∧ vi = .int .i64 k ∧ m.Le m' ∧ CellsOf vecL m' cells s.vecs ∧ St [] w m wr [.row 2 1 (.slice q13 s.ids.length c13) s.ids.length (s.ids.map (.int .i64)), .row 26 1 (.slice q16 s.vecs.length c16) s.vecs.length cells, .box b4 [.int .i64 s.dim, .slice q13 s.ids.length c13, .slice q16 s.vecs.length c16], .box b8 [.int .i64 0, .slice none 0 0, .slice none 0 0]] m') (fun vi _ => s.vecs.length - (intOf vi).toNat)
    case atStart => exact ⟨0, news16, m, Nat.zero_le _, rfl, Mem.Le.refl _, HC.out, hS⟩
    case round =>
      clear hS
      obtain ⟨k, cells, m', hk, rfl, hle, hcells, hS⟩ := hrel
      by_cases hlt : k < s.vecs.length
      · obtain ⟨g, rfl, g1, g2⟩ := row_head (hS.row 1 rfl) (by omega)
        obtain ⟨q, c, hv, hk1, hset⟩ := vec_parts hcells k hlt
        have hself : s.vecs.set k (s.vecs.getD k []) = s.vecs := by
          apply List.ext_getElem?
          intro j
          rw [List.getElem?_set]
          split
          · rename_i e; subst e; simp [List.getD, hlt]
          · rfl
        have HS : Hid (∀ (m'' : Mem) (v' : Value), m'.Le m'' → vecL.rd m'' [v'] (s.vecs.getD k []) → CellsOf vecL m'' (cells.set k v') s.vecs) := fun m'' v' a b => by
          have := hset m'' v' _ a b
          rwa [hself] at this
        have hl : k < cells.length := (List.getElem?_eq_some_iff.1 hk1).1
        have HV := Lib.hid hv
        have HB : Hid ((s.vecs.getD k []).length * (Lay.int .i16).bytes ≤ 140737488355328) := by obtain ⟨_, _, e, _, _, h3, _⟩ := HV.out; cases e; exact h3
        have hkk : (k : Int) < s.vecs.length := by omega
        have HL := Lib.hid hl
        simp only [maxLen] at g2
        clear hset hcells hv hself hl
        generalize s.vecs.getD k [] = vk at *
        go_wp2_with (first 
    | ((with_reducible refine' Wl.out ?_; apply k_box (ty := 32) (y := (.tmp 0)) hS); (· exact .mk); clear hS; intro w4 b4 hS)
    | ((with_reducible refine' Wl.out ?_; apply k_alloc (ty := 32) (dst := some 8) hS); (· exact .mk); clear hS; intro w8 b8 hS)
    | ((with_reducible refine' Wl.out ?_; apply k_load hS); (· exact .mk))
    | ((with_reducible refine' Wl.out ?_; apply k_loads hS); (· exact .mk))
    | ((with_reducible refine' Wl.out ?_; apply k_store hS); (· exact .mk); clear hS; intro ws hS)
    | ((with_reducible refine' Wl.out ?_; apply k_storeR hS); (· exact .mk); clear hS; intro ws hS)
    | ((with_reducible refine' Wl.out ?_; apply k_stores hS); (· exact .mk); clear hS; intro ws hS))
        replace hS := hS.drew
        refine startL (S := Sx _ [(b4, _)]) (by kernel_rfl) (hS.sx0.cons hS (by (repeat constructor))) (fun _ _ _ _ => trivial) (fun hHeld => ?_)
        focus (refine takeN 0 (v := ?_) rfl (by kernel_rfl) ?_ ?_; rotate_left; focus (intro w hSw; clear hSw; go_simp; try with_reducible rfl))
        try simp only [Act.put, nz1, nz2, nz3]
        refine takeN 1 rfl (by kernel_rfl) (yield_load rfl Tryz.underlying30 rfl rfl (by (first | (apply FindX.box; (· (repeat constructor)); rfl) | exact FindX.mem (by assumption)))) ?_
        try simp only [Act.put, nz1, nz2, nz3]
        focus (refine takeN 2 (v := ?_) rfl (by kernel_rfl) ?_ ?_; rotate_left; focus (intro w hSw; clear hSw; go_simp; try with_reducible rfl))
        try simp only [Act.put, nz1, nz2, nz3]
        focus (refine takeN 3 (v := ?_) rfl (by kernel_rfl) ?_ ?_; rotate_left; focus (intro w hSw; clear hSw; go_simp; try with_reducible rfl))
        try simp only [Act.put, nz1, nz2, nz3]
        refine wpAnyH_ready (rs := [4]) (by kernel_rfl) (by simp) ?_
        refine consL 4 rfl (fun K hK => ?_) AllReadyH.nil
        rw [if_pos (by rfl)]; go_simp; refine (svclone_c _ _ hS.inw _ HV.out).mono ?_; rintro e' w31 ⟨q31, c31, news31, rfl, hc31, hk31⟩; replace hS := hS.callOwn hk31; clear hk31; go_wp2_with fail
        refine hK.out _ _ (by first | exact (hS.sx0.cons hS (by (repeat constructor))) | exact Sx.le (by assumption) (hS.sx0.cons hS (by (repeat constructor)))) (fun hHeld => ?_)
        clear hK K
        try simp only [Act.put, nz1, nz2, nz3]
        focus (refine takeN 5 (v := ?_) rfl (by kernel_rfl) ?_ ?_; rotate_left; focus (intro w hSw; clear hSw; go_simp; try with_reducible rfl))
        try simp only [Act.put, nz1, nz2, nz3]
        refine wpAnyH_ready (rs := [6]) (by kernel_rfl) (by simp) ?_
        refine consL 6 rfl (fun K hK => ?_) AllReadyH.nil
        (with_reducible apply s_storeR hS); (· exact ⟨_, Tryz.underlying26, rfl, by kernel_rfl⟩); (· exact rfl); (· (first | (go_simp; done) | (go_simp; with_reducible rfl))); (· rfl); (· (repeat constructor)); (· exact HL.out); clear hS; intro ws hS
        refine hK.out _ _ (by first | exact (hS.sx0.cons hS (by (repeat constructor))) | exact Sx.le (by assumption) (hS.sx0.cons hS (by (repeat constructor)))) (fun hHeld => ?_)
        clear hK K
        try simp only [Act.put, nz1, nz2, nz3]
        refine wpAnyH_done (by kernel_rfl) ?_ _
        refine NoPanic.normal ?_
        go_wp2_with (first 
    | ((with_reducible refine' Wl.out ?_; apply k_box (ty := 32) (y := (.tmp 0)) hS); (· exact .mk); clear hS; intro w4 b4 hS)
    | ((with_reducible refine' Wl.out ?_; apply k_alloc (ty := 32) (dst := some 8) hS); (· exact .mk); clear hS; intro w8 b8 hS)
    | ((with_reducible refine' Wl.out ?_; apply k_load hS); (· exact .mk))
    | ((with_reducible refine' Wl.out ?_; apply k_loads hS); (· exact .mk))
    | ((with_reducible refine' Wl.out ?_; apply k_store hS); (· exact .mk); clear hS; intro ws hS)
    | ((with_reducible refine' Wl.out ?_; apply k_storeR hS); (· exact .mk); clear hS; intro ws hS)
    | ((with_reducible refine' Wl.out ?_; apply k_stores hS); (· exact .mk); clear hS; intro ws hS))
        go_roundw
        case rel =>
          obtain ⟨m2, hS2, hle2, hrd⟩ := hS.settleRow (L := Lay.int .i16) 0 rfl hc31 HB.out
          exact ⟨k + 1, _, m2, hlt, by go_num, hle.trans hle2, HS.out m2 _ hle2 hrd, hS2⟩
        case measure => simp [intOf]; omega
      · obtain rfl : k = s.vecs.length := by omega
        obtain ⟨g, rfl, g1, g2⟩ := row_head (hS.row 1 rfl) (by omega)
        obtain ⟨gi, rfl, gi1, gi2⟩ := row_head (hS.row 0 rfl) (by omega)
        obtain ⟨q, c, _, hk1, hset⟩ := vec_parts hcells i hi2
        have HL : Hid (i < cells.length) := (List.getElem?_eq_some_iff.1 hk1).1
        have HLi : Hid (i < (s.ids.map (Value.int .i64)).length) := by simpa [Hid] using hi
        have HS := Lib.hid (fun (m'' : Mem) (v' : Value) => hset m'' v' v)
        have HB : Hid (v.length * (Lay.int .i16).bytes ≤ 140737488355328) := by obtain ⟨_, _, e, _, _, h3, _⟩ := HU.out; cases e; exact h3
        have HU' := Lib.hid (Lay.mono _ hle HU.out)
        have hiz : (i : Int) < s.ids.length := by omega
        have hiz2 : (i : Int) < s.vecs.length := by omega
        simp only [maxLen] at g2 gi2
        clear hset hcells hk1
        go_wp2_with (first 
    | ((with_reducible refine' Wl.out ?_; apply k_box (ty := 32) (y := (.tmp 0)) hS); (· exact .mk); clear hS; intro w4 b4 hS)
    | ((with_reducible refine' Wl.out ?_; apply k_alloc (ty := 32) (dst := some 8) hS); (· exact .mk); clear hS; intro w8 b8 hS)
    | ((with_reducible refine' Wl.out ?_; apply k_load hS); (· exact .mk))
    | ((with_reducible refine' Wl.out ?_; apply k_loads hS); (· exact .mk))
    | ((with_reducible refine' Wl.out ?_; apply k_store hS); (· exact .mk); clear hS; intro ws hS)
    | ((with_reducible refine' Wl.out ?_; apply k_storeR hS); (· exact .mk); clear hS; intro ws hS)
    | ((with_reducible refine' Wl.out ?_; apply k_stores hS); (· exact .mk); clear hS; intro ws hS))
        replace hS := hS.drew
        refine startL (S := Sx _ [(b4, _)]) (by kernel_rfl) (hS.sx0.cons hS (by (repeat constructor))) (fun _ _ _ _ => trivial) (fun hHeld => ?_)
        focus (refine takeN 0 (v := ?_) rfl (by kernel_rfl) ?_ ?_; rotate_left; focus (intro w hSw; clear hSw; go_simp; try with_reducible rfl))
        try simp only [Act.put, nz1, nz2, nz3]
        refine takeN 1 rfl (by kernel_rfl) (yield_load rfl Tryz.underlying29 rfl rfl (by (first | (apply FindX.box; (· (repeat constructor)); rfl) | exact FindX.mem (by assumption)))) ?_
        try simp only [Act.put, nz1, nz2, nz3]
        focus (refine takeN 2 (v := ?_) rfl (by kernel_rfl) ?_ ?_; rotate_left; focus (intro w hSw; clear hSw; go_simp; try with_reducible rfl))
        try simp only [Act.put, nz1, nz2, nz3]
        focus (refine takeN 3 (v := ?_) rfl (by kernel_rfl) ?_ ?_; rotate_left; focus (intro w hSw; clear hSw; go_simp; try with_reducible rfl))
        try simp only [Act.put, nz1, nz2, nz3]
        refine takeN 4 rfl (by kernel_rfl) (yield_load rfl Tryz.underlying30 rfl rfl (by (first | (apply FindX.box; (· (repeat constructor)); rfl) | exact FindX.mem (by assumption)))) ?_
        try simp only [Act.put, nz1, nz2, nz3]
        focus (refine takeN 5 (v := ?_) rfl (by kernel_rfl) ?_ ?_; rotate_left; focus (intro w hSw; clear hSw; go_simp; try with_reducible rfl))
        try simp only [Act.put, nz1, nz2, nz3]
        focus (refine takeN 6 (v := ?_) rfl (by kernel_rfl) ?_ ?_; rotate_left; focus (intro w hSw; clear hSw; go_simp; try with_reducible rfl))
        try simp only [Act.put, nz1, nz2, nz3]
        focus (refine takeN 7 (v := ?_) rfl (by kernel_rfl) ?_ ?_; rotate_left; focus (intro w hSw; clear hSw; go_simp; try with_reducible rfl))
        try simp only [Act.put, nz1, nz2, nz3]
        refine wpAnyH_ready (rs := [8]) (by kernel_rfl) (by simp) ?_
        refine consL 8 rfl (fun K hK => ?_) AllReadyH.nil
        rw [if_pos (by rfl)]; go_simp; refine (svclone_c _ _ hS.inw _ HU'.out).mono ?_; rintro e' w42 ⟨q42, c42, news42, rfl, hc42, hk42⟩; replace hS := hS.callOwn hk42; clear hk42; go_wp2_with fail
        refine hK.out _ _ (by first | exact (hS.sx0.cons hS (by (repeat constructor))) | exact Sx.le (by assumption) (hS.sx0.cons hS (by (repeat constructor)))) (fun hHeld => ?_)
        clear hK K
        try simp only [Act.put, nz1, nz2, nz3]
        focus (refine takeN 9 (v := ?_) rfl (by kernel_rfl) ?_ ?_; rotate_left; focus (intro w hSw; clear hSw; go_simp; try with_reducible rfl))
        try simp only [Act.put, nz1, nz2, nz3]
        refine wpAnyH_ready (rs := [10]) (by kernel_rfl) (by simp) ?_
        refine consL 10 rfl (fun K hK => ?_) AllReadyH.nil
        (with_reducible apply s_storeR hS); (· exact ⟨_, Tryz.underlying2, rfl, by kernel_rfl⟩); (· exact rfl); (· (first | (go_simp; done) | (go_simp; with_reducible rfl))); (· rfl); (· (repeat constructor)); (· exact HLi.out); clear hS; intro ws hS
        refine hK.out _ _ (by first | exact (hS.sx0.cons hS (by (repeat constructor))) | exact Sx.le (by assumption) (hS.sx0.cons hS (by (repeat constructor)))) (fun hHeld => ?_)
        clear hK K
        try simp only [Act.put, nz1, nz2, nz3]
        focus (refine takeN 11 (v := ?_) rfl (by kernel_rfl) ?_ ?_; rotate_left; focus (intro w hSw; clear hSw; go_simp; try with_reducible rfl))
        try simp only [Act.put, nz1, nz2, nz3]
        refine wpAnyH_ready (rs := [12]) (by kernel_rfl) (by simp) ?_
        refine consL 12 rfl (fun K hK => ?_) AllReadyH.nil
        (with_reducible apply s_storeR hS); (· exact ⟨_, Tryz.underlying26, rfl, by kernel_rfl⟩); (· exact rfl); (· (first | (go_simp; done) | (go_simp; with_reducible rfl))); (· rfl); (· (repeat constructor)); (· exact HL.out); clear hS; intro ws hS
        refine hK.out _ _ (by first | exact (hS.sx0.cons hS (by (repeat constructor))) | exact Sx.le (by assumption) (hS.sx0.cons hS (by (repeat constructor)))) (fun hHeld => ?_)
        clear hK K
        try simp only [Act.put, nz1, nz2, nz3]
        refine wpAnyH_done (by kernel_rfl) ?_ _
        refine NoPanic.normal ?_
        all_goals
          replace hS := (((hS.front (x := .box b8 _) (by (repeat constructor))).front (x := .row 26 _ _ _ _) (by (repeat constructor))).front (x := .row 2 _ _ _ _) (by (repeat constructor))).front (x := .row 51 _ _ _ _) (by (repeat constructor))
          go_wp2_with (first 
    | ((with_reducible refine' Wl.out ?_; apply k_box (ty := 32) (y := (.tmp 0)) hS); (· exact .mk); clear hS; intro w4 b4 hS)
    | ((with_reducible refine' Wl.out ?_; apply k_alloc (ty := 32) (dst := some 8) hS); (· exact .mk); clear hS; intro w8 b8 hS)
    | ((with_reducible refine' Wl.out ?_; apply k_load hS); (· exact .mk))
    | ((with_reducible refine' Wl.out ?_; apply k_loads hS); (· exact .mk))
    | ((with_reducible refine' Wl.out ?_; apply k_store hS); (· exact .mk); clear hS; intro ws hS)
    | ((with_reducible refine' Wl.out ?_; apply k_storeR hS); (· exact .mk); clear hS; intro ws hS)
    | ((with_reducible refine' Wl.out ?_; apply k_stores hS); (· exact .mk); clear hS; intro ws hS))
          refine ret_cell (n := 3) rfl rfl hS (by (repeat constructor)) (by rfl) slRow rfl ?_
          obtain ⟨m2, hS2, hle2, hrd⟩ := hS.settleRow (L := Lay.int .i16) 0 rfl hc42 HB.out
          have HC2 := HS.out m2 _ hle2 hrd
          have hii : ∀ y ∈ s.ids.set i x, InK .i64 y := fun y hy => by
            rcases List.mem_or_eq_of_mem_set hy with h | rfl
            · exact HIn.out y h
            · exact HX.out
          obtain ⟨m3, hS3, hle3, hrd3⟩ := St.settleRow' (L := i64L) (xs := s.ids.set i x) hS2 0 (by simp) rfl (by rw [← List.map_set]; exact of_ints hii) (by rw [List.length_set]; exact hb1.out)
          obtain ⟨m4, hS4, hle4, hrd4⟩ := St.settleRow' (L := vecL) (xs := s.vecs.set i v) hS3 0 (by simp) rfl (CellsOf.mono hle3 HC2) (by rw [List.length_set]; exact hb2.out)
          refine ⟨_, m4, rfl, ⟨withS s i x v, some ⟨gi, 0, none⟩, c13, some ⟨g, 0, none⟩, c16, rfl, by simp [withS], ?_⟩, ?_⟩
          · have := slL_mk (s := withS s i x v) HD.out (Lay.mono _ hle4 hrd3) hrd4
            exact Lib.hid (by simpa [withS] using this)
          · have := hS4.done
            exact ⟨this.kept, this.has, this.apart, this.know, (hle.trans (hle2.trans (hle3.trans hle4))), this.new⟩
/-- An id's slot, or why not. -/
noncomputable def fiE (s : Sl) (z : Int) : Int := if dirOK s ∧ 0 ≤ z ∧ z ≤ 2147483647 then (if (dirF s s.ids.length z).isSome = true then 0 else 5) else 1
noncomputable def fiI (s : Sl) (z : Int) : Int := if dirOK s ∧ 0 ≤ z ∧ z ≤ 2147483647 then (dirF s s.ids.length z).getD 0 else 0
set_option maxRecDepth 100000 in
set_option maxHeartbeats 4000000 in
theorem sfind_c (m : Mem) (w : World) (hm : m.In w) (v0 v1 v2 : Value) (s : Sl) (h : slL.rd m [v0, v1, v2] s) (z : Int) (hz : InK .i64 z) :
    Calls Tryz.prog 40 #[.agg #[v0, v1, v2], .int .i64 z] w (Ret w m fun v _ => v = .tuple #[.int .i64 (fiI s z), .int .i64 (fiE s z)]) := by
  have hS := St.start hm
  have A0 := Lib.hid h
  have HZ := Lib.hid hz
  clear h hz
  by_cases hd : dirOK s
  · by_cases hi : 0 ≤ z ∧ z ≤ 2147483647
    · have hb : Hid (decide (0 ≤ z ∧ z ≤ 2147483647) = true) := decide_eq_true hi
      cases hq : dirF s s.ids.length z with
      | none =>
        have hE : Hid (fiI s z = 0 ∧ fiE s z = 5) := ⟨by unfold fiI; rw [if_pos ⟨hd, hi⟩, hq]; rfl, by unfold fiE; rw [if_pos ⟨hd, hi⟩, hq]; rfl⟩
        have HLk : Hid ((dirF s s.ids.length z).getD 0 = 0 ∧ (dirF s s.ids.length z).isSome = false) := by rw [hq]; exact ⟨rfl, rfl⟩
        have HN := Lib.hid hd
        clear hd hi hq
        go_enter Tryz.func40, Tryz.ntmps40
        go_wp2_with (first
    | ((with_reducible refine' Wl.out ?_; apply k_box hS); (· exact .mk); clear hS; intro _ _ hS)
    | ((with_reducible refine' Wl.out ?_; apply k_loads hS); (· exact .mk))
    | (go_at_call 75; (fail_if_success (clear Mk19)); refine (letB (is_c _ _ hS.inw _)).mono ?_; rintro e' w19 ⟨_, m19, rfl, ⟨B19, HB19, rfl⟩, hk⟩; replace hS := hS.call hk; (try replace A0 := Lib.hid (Lay.mono _ hk.le A0.out)); (try replace HC := Lib.hid (CellsOf.mono hk.le HC.out)); (try replace HC2 := Lib.hid (CellsOf.mono hk.le HC2.out)); clear hk; obtain rfl : B19 = true := HB19.out.trans hb.out; have Mk19 := True.intro)
          | (go_at_call 52; refine (directory_c m _ hS.inw _ s A0.out).mono ?_; rintro e' w12 (⟨hok, b, n, hn, rfl, hk⟩ | ⟨hok, rfl, hk⟩) <;> (first | exact absurd HN.out hok | skip); replace hS := hS.callOwn hk; clear hk hok)
          | ((with_reducible refine' Wl.out ?_; apply wl_lookup2 hS mapT); (· exact rfl); (· (repeat constructor)); (· exact rfl); (· exact HZ.out); (· exact HLk.out)))
        go_ret2
        exact ⟨_, _, rfl, by rw [hE.out.1, hE.out.2]; rfl, hS.done⟩
      | some y =>
        have hE : Hid (fiI s z = y ∧ fiE s z = 0) := ⟨by unfold fiI; rw [if_pos ⟨hd, hi⟩, hq]; rfl, by unfold fiE; rw [if_pos ⟨hd, hi⟩, hq]; rfl⟩
        have HLk : Hid ((dirF s s.ids.length z).getD 0 = y ∧ (dirF s s.ids.length z).isSome = true) := by rw [hq]; exact ⟨rfl, rfl⟩
        have HN := Lib.hid hd
        clear hd hi hq
        go_enter Tryz.func40, Tryz.ntmps40
        go_wp2_with (first
    | ((with_reducible refine' Wl.out ?_; apply k_box hS); (· exact .mk); clear hS; intro _ _ hS)
    | ((with_reducible refine' Wl.out ?_; apply k_loads hS); (· exact .mk))
    | (go_at_call 75; (fail_if_success (clear Mk19)); refine (letB (is_c _ _ hS.inw _)).mono ?_; rintro e' w19 ⟨_, m19, rfl, ⟨B19, HB19, rfl⟩, hk⟩; replace hS := hS.call hk; (try replace A0 := Lib.hid (Lay.mono _ hk.le A0.out)); (try replace HC := Lib.hid (CellsOf.mono hk.le HC.out)); (try replace HC2 := Lib.hid (CellsOf.mono hk.le HC2.out)); clear hk; obtain rfl : B19 = true := HB19.out.trans hb.out; have Mk19 := True.intro)
          | (go_at_call 52; refine (directory_c m _ hS.inw _ s A0.out).mono ?_; rintro e' w12 (⟨hok, b, n, hn, rfl, hk⟩ | ⟨hok, rfl, hk⟩) <;> (first | exact absurd HN.out hok | skip); replace hS := hS.callOwn hk; clear hk hok)
          | ((with_reducible refine' Wl.out ?_; apply wl_lookup2 hS mapT); (· exact rfl); (· (repeat constructor)); (· exact rfl); (· exact HZ.out); (· exact HLk.out)))
        go_ret2
        exact ⟨_, _, rfl, by rw [hE.out.1, hE.out.2]; rfl, hS.done⟩
    · have hb : Hid (decide (0 ≤ z ∧ z ≤ 2147483647) = false) := decide_eq_false hi
      have hE : Hid (fiI s z = 0 ∧ fiE s z = 1) := ⟨if_neg fun h => hi h.2, if_neg fun h => hi h.2⟩
      have HN := Lib.hid hd
      clear hd hi
      go_enter Tryz.func40, Tryz.ntmps40
      go_wp2_with (first
    | ((with_reducible refine' Wl.out ?_; apply k_box hS); (· exact .mk); clear hS; intro _ _ hS)
    | ((with_reducible refine' Wl.out ?_; apply k_loads hS); (· exact .mk))
    | (go_at_call 75; (fail_if_success (clear Mk19)); refine (letB (is_c _ _ hS.inw _)).mono ?_; rintro e' w19 ⟨_, m19, rfl, ⟨B19, HB19, rfl⟩, hk⟩; replace hS := hS.call hk; (try replace A0 := Lib.hid (Lay.mono _ hk.le A0.out)); (try replace HC := Lib.hid (CellsOf.mono hk.le HC.out)); (try replace HC2 := Lib.hid (CellsOf.mono hk.le HC2.out)); clear hk; obtain rfl : B19 = false := HB19.out.trans hb.out; have Mk19 := True.intro)
        | (go_at_call 52; refine (directory_c m _ hS.inw _ s A0.out).mono ?_; rintro e' w12 (⟨hok, b, n, hn, rfl, hk⟩ | ⟨hok, rfl, hk⟩) <;> (first | exact absurd HN.out hok | skip); replace hS := hS.callOwn hk; clear hk hok))
      go_ret2
      exact ⟨_, _, rfl, by rw [hE.out.1, hE.out.2]; rfl, hS.done⟩
  · have hE : Hid (fiI s z = 0 ∧ fiE s z = 1) := ⟨if_neg fun h => hd h.1, if_neg fun h => hd h.1⟩
    have HN := Lib.hid hd
    clear hd
    go_enter Tryz.func40, Tryz.ntmps40
    go_wp2_with (first
    | ((with_reducible refine' Wl.out ?_; apply k_box hS); (· exact .mk); clear hS; intro _ _ hS)
    | ((with_reducible refine' Wl.out ?_; apply k_loads hS); (· exact .mk))
      | (go_at_call 52; refine (directory_c m _ hS.inw _ s A0.out).mono ?_; rintro e' w12 (⟨hok, b, n, hn, rfl, hk⟩ | ⟨hok, rfl, hk⟩) <;> (first | exact absurd hok HN.out | skip); replace hS := hS.call hk; clear hk hok))
    go_ret2
    exact ⟨_, _, rfl, by rw [hE.out.1, hE.out.2]; rfl, hS.done⟩
/-- Slots without one. -/
noncomputable def delR (s : Sl) (z : Int) : Sl := if fiE s z = 0 then delS s (fiI s z).toNat else ⟨0, [], []⟩
theorem fiE_ok {s : Sl} {z : Int} (h : fiE s z = 0) : dirOK s ∧ ∃ i : Nat, i < s.ids.length ∧ fiI s z = i ∧ s.ids.getD i 0 = z ∧ z ≠ -1 := by
  unfold fiE at h
  split at h
  · rename_i hh
    split at h
    · rename_i hs
      obtain ⟨y, hy⟩ := Option.isSome_iff_exists.1 hs
      obtain ⟨i, h1, rfl, h3, h4⟩ := dirF_at s _ hy
      exact ⟨hh.1, i, h1, by unfold fiI; rw [if_pos hh, hy]; rfl, h3, h4⟩
    · cases h
  · cases h
theorem sl_nil (m : Mem) : slL.rd m [.int .i64 0, .slice none 0 0, .slice none 0 0] ⟨0, [], []⟩ := slL_mk (s := ⟨0, [], []⟩) (inK64 (by decide) (by decide)) (Lay.nil_rd _ _) (Lay.nil_rd _ _)
set_option maxRecDepth 100000 in
set_option maxHeartbeats 4000000 in
theorem del_c (m : Mem) (w : World) (hm : m.In w) (q1 q2 : Option Addr) (c1 c2 : Nat) (s : Sl) (h : slL.rd m [.int .i64 s.dim, .slice q1 s.ids.length c1, .slice q2 s.vecs.length c2] s) (z : Int) (hz : InK .i64 z) :
    Calls Tryz.prog 23 #[.agg #[.int .i64 s.dim, .slice q1 s.ids.length c1, .slice q2 s.vecs.length c2], .int .i64 z] w (Ret w m fun v m' => ∃ T p1 d1 p2 d2, Hid (T = delR s z) ∧ v = .tuple #[.int .i64 (fiI s z), .agg #[.int .i64 T.dim, .slice p1 T.ids.length d1, .slice p2 T.vecs.length d2], .int .i64 (fiE s z)] ∧ Hid (slL.rd m' [.int .i64 T.dim, .slice p1 T.ids.length d1, .slice p2 T.vecs.length d2] T)) := by
  have hS := St.start hm
  have A0 := Lib.hid h
  have HZ := Lib.hid hz
  clear h hz
  by_cases he : fiE s z = 0
  · obtain ⟨hd, i, hi, e1, e2, e3⟩ := fiE_ok he
    have hR : Hid (delR s z = withS s i (-1) []) := by show _ = _; unfold delR; rw [if_pos he, e1]; rfl
    have hi2 : i < s.vecs.length := by rw [hd.2.2.1]; exact hi
    have h1 : Hid (InK .i64 (-1)) := inK64 (by decide) (by decide)
    rw [e1, he]
    have HE := Lib.hid e1
    have HF := Lib.hid he
    clear he e1 e2 e3 hd
    go_enter Tryz.func23, Tryz.ntmps23
    go_wp2_with (first
    | ((with_reducible refine' Wl.out ?_; apply k_box hS); (· exact .mk); clear hS; intro _ _ hS)
    | ((with_reducible refine' Wl.out ?_; apply k_alloc hS); (· exact .mk); clear hS; intro _ _ hS)
    | ((with_reducible refine' Wl.out ?_; apply k_loads hS); (· exact .mk))
    | ((with_reducible refine' Wl.out ?_; apply k_stores hS); (· exact .mk); clear hS; intro ws hS)
      | (go_at_call 40; refine (sfind_c m _ hS.inw _ _ _ s A0.out z HZ.out).mono ?_; rintro e' w12 ⟨_, m12, rfl, rfl, hk⟩; replace hS := hS.grow (grownBy_of_below hk.below); clear hk; rw [HE.out, HF.out])
      | (go_at_call 55; refine (with_c m _ hS.inw _ _ _ _ s A0.out i hi hi2 _ h1.out _ [] (Lay.nil_rd _ _)).mono ?_; rintro e' w22 ⟨_, m22, rfl, ⟨T, p1, d1, p2, d2, hT, rfl, hrd⟩, hk⟩; replace hS := hS.call hk; clear hk))
    refine ret_cell_tmp3 (n := 3) Tryz.results23 rfl hS (by (repeat constructor)) (by rfl) slRow rfl ?_
    exact ⟨_, m22, rfl, ⟨T, p1, d1, p2, d2, hT.out.trans hR.out.symm, rfl, hrd⟩, hS.done⟩
  · have hR : Hid (delR s z = ⟨0, [], []⟩) := if_neg he
    have hx : fiE s z = 1 ∨ fiE s z = 5 := by
      unfold fiE at he ⊢
      split at he
      · rename_i hh
        rw [if_pos hh]
        split at he
        · exact absurd rfl he
        · rename_i h2; rw [if_neg h2]; exact .inr rfl
      · rename_i hh; rw [if_neg hh]; exact .inl rfl
    have HI0 : Hid (fiI s z = 0) := by
      show _ = _
      unfold fiE at he
      unfold fiI
      split at he
      · rename_i hh
        rw [if_pos hh]
        split at he
        · exact absurd rfl he
        · rename_i h2
          cases hq : dirF s s.ids.length z with
          | none => rfl
          | some y => rw [hq] at h2; exact absurd rfl h2
      · rename_i hh; rw [if_neg hh]
    rw [HI0.out]
    clear he
    rcases hx with hx | hx
    all_goals
      rw [hx]
      have HF := Lib.hid hx
      clear hx
      go_enter Tryz.func23, Tryz.ntmps23
      go_wp2_with (first
    | ((with_reducible refine' Wl.out ?_; apply k_box hS); (· exact .mk); clear hS; intro _ _ hS)
    | ((with_reducible refine' Wl.out ?_; apply k_alloc hS); (· exact .mk); clear hS; intro _ _ hS)
    | ((with_reducible refine' Wl.out ?_; apply k_loads hS); (· exact .mk))
    | ((with_reducible refine' Wl.out ?_; apply k_stores hS); (· exact .mk); clear hS; intro ws hS)
        | (go_at_call 40; refine (sfind_c m _ hS.inw _ _ _ s A0.out z HZ.out).mono ?_; rintro e' w12 ⟨_, m12, rfl, rfl, hk⟩; replace hS := hS.grow (grownBy_of_below hk.below); clear hk; rw [HI0.out, HF.out]))
      refine ret_cell_tmp3 (n := 3) Tryz.results23 rfl hS (by (repeat constructor)) (by rfl) slRow rfl ?_
      exact ⟨_, m, rfl, ⟨⟨0, [], []⟩, none, 0, none, 0, hR.out.symm, rfl, sl_nil m⟩, hS.done⟩
end Go.Proofs.YtnbhhdncbajkgaaGreatDoor
