/- Contracts and plain laws that the laws' proofs use, laid together (part 3). -/
import Derived.Test.YtnmgiiaejpaeeaaG2
import Derived.Shelf.Abstract
import Derived.Test.YtnmgiiaejpaeeaaDk11
import Derived.Test.YtnmgiiaejpaeeaaStampRef2
/- Contracts of package disk, over the state of a walk: clones, own. -/
namespace Go.Proofs.Ytnmgiiaejpaeeaa
set_option linter.unusedVariables false
set_option linter.unusedSimpArgs false
open Go.RowKit
set_option maxRecDepth 100000 in
set_option maxHeartbeats 2000000 in
theorem bclone_c (m : Mem) (w : World) (hm : m.In w) (v : Value) {xs} (h : u8L.list.rd m [v] xs) : Calls Try.prog 73 #[v] w (RetRow u8L 5 w m xs) := by
  have qn : ∀ (w : World) (a : Option Addr) (n c n' c' : Nat), (binOp .eql 22 (.slice a n c) (.slice none n' c')).run Try.prog w = .ok (.bool a.isNone) w := fun w a n c n' c' => Lib.run_eql_slice_nil w _ _ a n c n' c' Try.underlying22
  have HH := Lib.hid h
  obtain ⟨p, c, rfl, h1, h2, h3, h4⟩ := Lay.list_open h
  have hS := St.start hm
  cases p with
  | none =>
    have : xs = [] := by
      rcases Nat.eq_zero_or_pos xs.length with h0 | h0
      · exact List.eq_nil_of_length_eq_zero h0
      · obtain ⟨b, o, e, _⟩ := h4 h0; cases e
    subst this
    clear h h1 h2 h3 h4 HH
    go_enter Try.func73, Try.ntmps73
    go_wp2
    go_ret
    exact ⟨none, 0, [], rfl, CellsOf.nil _ _, hS.nilRow _ _⟩
  | some a =>
    have HB := Lib.hid h3
    clear h h1 h2 h3 h4
    go_enter Try.func73, Try.ntmps73
    go_wp2_with (first
      | ((with_reducible apply l_lit0 el_u8 hS); intro w5 b5 hS1; replace hS := hS1; clear hS1)
      | ((with_reducible apply l_append u8L el_u8 hS (by decide)); (· exact rfl); (· (repeat (first | exact RowAt.head | apply RowAt.tail))); (· exact rfl); (· exact HH.out); (· rw [Nat.zero_add]; exact HB.out); intro w7 q7 c7 news7 hc7 hS1; replace hS := hS1; clear hS1; simp only [Nat.zero_add, List.nil_append] at hS))
    go_ret
    exact ⟨q7, c7, news7, by simp, hc7, hS⟩
set_option maxRecDepth 100000 in
set_option maxHeartbeats 2000000 in
theorem wclone_c (m : Mem) (w : World) (hm : m.In w) (v : Value) {xs} (h : wrL.list.rd m [v] xs) : Calls Try.prog 94 #[v] w (RetRow wrL 102 w m xs) := by
  have qn : ∀ (w : World) (a : Option Addr) (n c n' c' : Nat), (binOp .eql 42 (.slice a n c) (.slice none n' c')).run Try.prog w = .ok (.bool a.isNone) w := fun w a n c n' c' => Lib.run_eql_slice_nil w _ _ a n c n' c' Try.underlying42
  have HH := Lib.hid h
  obtain ⟨p, c, rfl, h1, h2, h3, h4⟩ := Lay.list_open h
  have hS := St.start hm
  cases p with
  | none =>
    have : xs = [] := by
      rcases Nat.eq_zero_or_pos xs.length with h0 | h0
      · exact List.eq_nil_of_length_eq_zero h0
      · obtain ⟨b, o, e, _⟩ := h4 h0; cases e
    subst this
    clear h h1 h2 h3 h4 HH
    go_enter Try.func94, Try.ntmps94
    go_wp2
    go_ret
    exact ⟨none, 0, [], rfl, CellsOf.nil _ _, hS.nilRow _ _⟩
  | some a =>
    have HB := Lib.hid h3
    clear h h1 h2 h3 h4
    go_enter Try.func94, Try.ntmps94
    go_wp2_with (first
      | ((with_reducible apply l_lit0 el_wr hS); intro w5 b5 hS1; replace hS := hS1; clear hS1)
      | ((with_reducible apply l_append wrL el_wr hS (by decide)); (· exact rfl); (· (repeat (first | exact RowAt.head | apply RowAt.tail))); (· exact rfl); (· exact HH.out); (· rw [Nat.zero_add]; exact HB.out); intro w7 q7 c7 news7 hc7 hS1; replace hS := hS1; clear hS1; simp only [Nat.zero_add, List.nil_append] at hS))
    go_ret
    exact ⟨q7, c7, news7, by simp, hc7, hS⟩
theorem wr_parts {m : Mem} {cells : List Value} {ws : List Wr} (h : CellsOf wrL m cells ws) (k : Nat) (hk : k < ws.length) : ∃ v, bytesL.rd m [v] ws[k].b ∧ cells[k * 2]? = some (.int .i64 ws[k].pos) ∧ cells[k * 2 + 1]? = some v ∧
    ∀ (m' : Mem) (v' : Value), m.Le m' → bytesL.rd m' [v'] ws[k].b → CellsOf wrL m' (cells.set (k * 2 + 1) v') ws := by
  obtain ⟨cs, h1, h2, h3⟩ := h.get k hk
  obtain ⟨v, rfl, hp, hv⟩ := wrL_open h1
  exact ⟨v, hv, by simpa [wrL, Lay.by, Lay.prod, Lay.int, Lay.list] using h2 0 _ rfl, h2 1 _ rfl, fun m' v' hle hr => h3 m' 1 v' hle (by decide) (wrL_mk hp hr)⟩
set_option maxRecDepth 100000 in
set_option maxHeartbeats 4000000 in
theorem own_c (m : Mem) (w : World) (hm : m.In w) (cs : List Value) (d : Dk) (h : dkL.rd m cs d) :
    Calls Try.prog 77 #[.agg cs.toArray] w (OwnD w m d) := by
  obtain ⟨v0, v1, rfl, h0, h1, _⟩ := dkL_open h
  have HB0 := Lib.hid h0
  have HW1 := Lib.hid h1
  obtain ⟨p1, c1, rfl, b1, b2, b3, b4⟩ := Lay.list_open h1
  obtain ⟨p0, c0, rfl, _⟩ := Lay.list_open h0
  have hS := St.start hm
  have H4 := Lib.hid b4
  clear h h0 h1 b3 b4
  go_enter Try.func77, Try.ntmps77
  go_wp2_with (first 
    | ((with_reducible apply l_box (ty := 44) (y := (.tmp 0)) hS); (· (first | (go_simp; done) | (go_simp; with_reducible rfl))); (· exact rfl); intro w1 b1 hS1; replace hS := hS1; clear hS1)
    | ((with_reducible apply l_alloc (ty := 44) (dst := some 2) hS (.agg #[.slice none 0 0, .slice none 0 0, .int .i64 0, .bool false]) [.slice none 0 0, .slice none 0 0, .int .i64 0, .bool false]); (· kernel_rfl); (· rfl); intro w2 b2 hS1; replace hS := hS1; clear hS1)
    | ((with_reducible apply l_alloc (ty := 102) (dst := some 4) hS (.agg #[.int .i64 0, .slice none 0 0]) [.int .i64 0, .slice none 0 0]); (· kernel_rfl); (· rfl); intro w4 b4 hS1; replace hS := hS1; clear hS1)
    | ((with_reducible apply l_load hS); (· (first | exact Try.underlying22 | exact Try.underlying42)); (· exact rfl); (· exact rfl); (· (first | (apply Find.box; (· (repeat (first | exact List.Mem.head _ | apply List.Mem.tail))); rfl) | exact Find.mem (by assumption) | (refine Find.row (by (repeat (first | exact List.Mem.head _ | apply List.Mem.tail))) ?_; assumption))))
    | ((with_reducible apply g_load hS); (· (first | exact Try.underlying22 | exact Try.underlying42)); (· exact rfl); (· (first | rfl | (go_simp; done))); (· exact rfl); (· (first | (apply Find.box; (· (repeat (first | exact List.Mem.head _ | apply List.Mem.tail))); rfl) | exact Find.mem (by assumption) | (refine Find.row (by (repeat (first | exact List.Mem.head _ | apply List.Mem.tail))) ?_; assumption))))
    | ((with_reducible apply l_loads hS); (· (first | exact (show ∃ d, Try.prog.underlying 44 = some d ∧ d.isRow = true ∧ (Try.prog.info? 44).map (·.size) = some 4 from ⟨_, Try.underlying44, rfl, by kernel_rfl⟩) | exact (show ∃ d, Try.prog.underlying 102 = some d ∧ d.isRow = true ∧ (Try.prog.info? 102).map (·.size) = some 2 from ⟨_, Try.underlying102, rfl, by kernel_rfl⟩))); (· exact rfl); (· (first | (apply Finds.box; (· (repeat (first | exact List.Mem.head _ | apply List.Mem.tail))); (· (repeat (first | exact SubL.stop | apply SubL.take | apply SubL.skip))); done) | (refine Finds.mem2 (by assumption) ?_; first | rfl | assumption | (simp; done)) | (apply Finds.row; (· (repeat (first | exact List.Mem.head _ | apply List.Mem.tail))); (· assumption); (· rfl)))))
    | ((with_reducible apply g_loads hS); (· (first | exact (show ∃ d, Try.prog.underlying 44 = some d ∧ d.isRow = true ∧ (Try.prog.info? 44).map (·.size) = some 4 from ⟨_, Try.underlying44, rfl, by kernel_rfl⟩) | exact (show ∃ d, Try.prog.underlying 102 = some d ∧ d.isRow = true ∧ (Try.prog.info? 102).map (·.size) = some 2 from ⟨_, Try.underlying102, rfl, by kernel_rfl⟩))); (· (first | rfl | (go_simp; done))); (· exact rfl); (· (first | (apply Finds.box; (· (repeat (first | exact List.Mem.head _ | apply List.Mem.tail))); (· (repeat (first | exact SubL.stop | apply SubL.take | apply SubL.skip))); done) | (refine Finds.mem2 (by assumption) ?_; first | rfl | assumption | (simp; done)) | (apply Finds.row; (· (repeat (first | exact List.Mem.head _ | apply List.Mem.tail))); (· assumption); (· rfl)))))
    | ((with_reducible apply l_store hS); (· (first | exact ⟨_, Try.underlying22, rfl, by kernel_rfl⟩ | exact ⟨_, Try.underlying42, rfl, by kernel_rfl⟩)); (· exact rfl); (· (first | (go_simp; done) | (go_simp; with_reducible rfl))); (· (first | rfl | assumption | (simp [Value.oneCell']; done))); (· (repeat (first | exact List.Mem.head _ | apply List.Mem.tail))); (· (repeat (first | exact SetsL.stop | apply SetsL.put | apply SetsL.skip))); (· (repeat (first | exact UpdB.head | apply UpdB.tail))); intro ws hS1; replace hS := hS1; clear hS1)
    | ((with_reducible apply l_storeR hS); (· (first | exact ⟨_, Try.underlying22, rfl, by kernel_rfl⟩ | exact ⟨_, Try.underlying42, rfl, by kernel_rfl⟩)); (· exact rfl); (· (first | (go_simp; done) | (go_simp; with_reducible rfl))); (· (first | rfl | assumption | (simp [Value.oneCell']; done))); (· (repeat (first | exact RowAt.head | apply RowAt.tail))); (· (first | assumption | omega | (simp; omega))); intro ws hS1; replace hS := hS1; clear hS1)
    | ((with_reducible apply l_stores hS); (· (first | exact (show ∃ d, Try.prog.underlying 44 = some d ∧ d.isRow = true ∧ (Try.prog.info? 44).map (·.size) = some 4 from ⟨_, Try.underlying44, rfl, by kernel_rfl⟩) | exact (show ∃ d, Try.prog.underlying 102 = some d ∧ d.isRow = true ∧ (Try.prog.info? 102).map (·.size) = some 2 from ⟨_, Try.underlying102, rfl, by kernel_rfl⟩))); (· exact rfl); (· exact rfl); (· exact rfl); (· (first | assumption | (simp [Value.oneCell']; done))); (· (repeat (first | exact List.Mem.head _ | apply List.Mem.tail))); (· (repeat (first | exact SetsL.stop | apply SetsL.put | apply SetsL.skip))); (· (repeat (first | exact UpdB.head | apply UpdB.tail))); intro ws hS1; replace hS := hS1; clear hS1))
  replace hS := hS.drew
  refine startL (S := Sx _ []) (by kernel_rfl) hS.sx0 (fun _ _ _ _ => trivial) (fun hHeld => ?_)
  focus (refine takeL 0 (v := ?_) rfl (by kernel_rfl) (by kernel_rfl) (by kernel_rfl) (fun _ _ _ h => h) (by assumption) (by first | rfl | (go_simp <;> fail)) ?_ ?_; rotate_left; focus (intro w hSw; clear hSw; go_simp; try with_reducible rfl))
  try simp only [Act.put, List.setIfInBounds_toArray, List.set_cons_zero, List.set_cons_succ]
  focus (refine takeL 3 (v := ?_) rfl (by kernel_rfl) (by kernel_rfl) (by kernel_rfl) (fun _ _ _ h => h) (by assumption) (by first | rfl | (go_simp <;> fail)) ?_ ?_; rotate_left; focus (intro w hSw; clear hSw; go_simp; try with_reducible rfl))
  try simp only [Act.put, List.setIfInBounds_toArray, List.set_cons_zero, List.set_cons_succ]
  refine wpAnyH_ready (rs := [1, 4]) (by kernel_rfl) (by simp) ?_
  refine consL 1 rfl (fun K hK => ?_) (consL 4 rfl (fun K hK => ?_) AllReadyH.nil)
  rotate_right
  focus
    (with_reducible apply s_load hS); (· exact Try.underlying42); (· exact rfl); (· exact rfl); (· (first | (apply Find.box; (· (repeat (first | exact List.Mem.head _ | apply List.Mem.tail))); rfl) | exact Find.mem (by assumption) | (refine Find.row (by (repeat (first | exact List.Mem.head _ | apply List.Mem.tail))) ?_; assumption)))
    refine hK.out _ _ (by first | exact hS.sx0 | exact Sx.le (by assumption) hS.sx0) (fun hHeld => ?_)
    clear hK K
    try simp only [Act.put, List.setIfInBounds_toArray, List.set_cons_zero, List.set_cons_succ]
    refine wpAnyH_ready (rs := [1]) (by kernel_rfl) (by simp) ?_
    refine consL 1 rfl (fun K hK => ?_) AllReadyH.nil
    (with_reducible apply s_load hS); (· exact Try.underlying22); (· exact rfl); (· exact rfl); (· (first | (apply Find.box; (· (repeat (first | exact List.Mem.head _ | apply List.Mem.tail))); rfl) | exact Find.mem (by assumption) | (refine Find.row (by (repeat (first | exact List.Mem.head _ | apply List.Mem.tail))) ?_; assumption)))
    refine hK.out _ _ (by first | exact hS.sx0 | exact Sx.le (by assumption) hS.sx0) (fun hHeld => ?_)
    clear hK K
    try simp only [Act.put, List.setIfInBounds_toArray, List.set_cons_zero, List.set_cons_succ]
    refine wpAnyH_ready (rs := [2]) (by kernel_rfl) (by simp) ?_
    refine consL 2 rfl (fun K hK => ?_) AllReadyH.nil
    rw [if_pos (by rfl)]; go_simp; refine (bclone_c _ _ hS.inw _ HB0.out).mono ?_; rintro e' w7 ⟨q7, c7, news7, rfl, hc7, hk7⟩; replace hS := hS.callOwn hk7; obtain ⟨rfl, _⟩ := cellsInt hc7; clear hk7 hc7; go_wp2_with fail
    refine hK.out _ _ (by first | exact hS.sx0 | exact Sx.le (by assumption) hS.sx0) (fun hHeld => ?_)
    clear hK K
    try simp only [Act.put, List.setIfInBounds_toArray, List.set_cons_zero, List.set_cons_succ]
    focus (refine takeL 6 (v := ?_) rfl (by kernel_rfl) (by kernel_rfl) (by kernel_rfl) (fun _ _ _ h => h) (by assumption) (by first | rfl | (go_simp <;> fail)) ?_ ?_; rotate_left; focus (intro w hSw; clear hSw; go_simp; try with_reducible rfl))
    try simp only [Act.put, List.setIfInBounds_toArray, List.set_cons_zero, List.set_cons_succ]
    refine wpAnyH_ready (rs := [5]) (by kernel_rfl) (by simp) ?_
    refine consL 5 rfl (fun K hK => ?_) AllReadyH.nil
    rw [if_pos (by rfl)]; go_simp; refine (wclone_c _ _ hS.inw _ HW1.out).mono ?_; rintro e' w10 ⟨q10, c10, news10, rfl, hc10, hk10⟩; replace hS := hS.callOwn hk10; clear hk10; go_wp2_with fail
    refine hK.out _ _ (by first | exact hS.sx0 | exact Sx.le (by assumption) hS.sx0) (fun hHeld => ?_)
    clear hK K
    try simp only [Act.put, List.setIfInBounds_toArray, List.set_cons_zero, List.set_cons_succ]
    refine wpAnyH_ready (rs := [7]) (by kernel_rfl) (by simp) ?_
    refine consL 7 rfl (fun K hK => ?_) AllReadyH.nil
    (with_reducible apply s_store hS); (· exact ⟨_, Try.underlying22, rfl, by kernel_rfl⟩); (· exact rfl); (· (first | (go_simp; done) | (go_simp; with_reducible rfl))); (· (first | rfl | assumption | (simp [Value.oneCell']; done))); (· (repeat (first | exact List.Mem.head _ | apply List.Mem.tail))); (· (repeat (first | exact SetsL.stop | apply SetsL.put | apply SetsL.skip))); (· (repeat (first | exact UpdB.head | apply UpdB.tail))); intro ws hS1; replace hS := hS1; clear hS1
    refine hK.out _ _ (by first | exact hS.sx0 | exact Sx.le (by assumption) hS.sx0) (fun hHeld => ?_)
    clear hK K
    try simp only [Act.put, List.setIfInBounds_toArray, List.set_cons_zero, List.set_cons_succ]
    focus (refine takeL 8 (v := ?_) rfl (by kernel_rfl) (by kernel_rfl) (by kernel_rfl) (fun _ _ _ h => h) (by assumption) (by first | rfl | (go_simp <;> fail)) ?_ ?_; rotate_left; focus (intro w hSw; clear hSw; go_simp; try with_reducible rfl))
    try simp only [Act.put, List.setIfInBounds_toArray, List.set_cons_zero, List.set_cons_succ]
    refine wpAnyH_ready (rs := [9]) (by kernel_rfl) (by simp) ?_
    refine consL 9 rfl (fun K hK => ?_) AllReadyH.nil
    (with_reducible apply s_store hS); (· exact ⟨_, Try.underlying42, rfl, by kernel_rfl⟩); (· exact rfl); (· (first | (go_simp; done) | (go_simp; with_reducible rfl))); (· (first | rfl | assumption | (simp [Value.oneCell']; done))); (· (repeat (first | exact List.Mem.head _ | apply List.Mem.tail))); (· (repeat (first | exact SetsL.stop | apply SetsL.put | apply SetsL.skip))); (· (repeat (first | exact UpdB.head | apply UpdB.tail))); intro ws hS1; replace hS := hS1; clear hS1
    refine hK.out _ _ (by first | exact hS.sx0 | exact Sx.le (by assumption) hS.sx0) (fun hHeld => ?_)
    clear hK K
    try simp only [Act.put, List.setIfInBounds_toArray, List.set_cons_zero, List.set_cons_succ]
    refine wpAnyH_done (by kernel_rfl) ?_ _
    refine NoPanic.normal ?_
  rotate_right
  focus
    (with_reducible apply s_load hS); (· exact Try.underlying22); (· exact rfl); (· exact rfl); (· (first | (apply Find.box; (· (repeat (first | exact List.Mem.head _ | apply List.Mem.tail))); rfl) | exact Find.mem (by assumption) | (refine Find.row (by (repeat (first | exact List.Mem.head _ | apply List.Mem.tail))) ?_; assumption)))
    refine hK.out _ _ (by first | exact hS.sx0 | exact Sx.le (by assumption) hS.sx0) (fun hHeld => ?_)
    clear hK K
    try simp only [Act.put, List.setIfInBounds_toArray, List.set_cons_zero, List.set_cons_succ]
    refine wpAnyH_ready (rs := [2, 4]) (by kernel_rfl) (by simp) ?_
    refine consL 2 rfl (fun K hK => ?_) (consL 4 rfl (fun K hK => ?_) AllReadyH.nil)
    rotate_right
    focus
      (with_reducible apply s_load hS); (· exact Try.underlying42); (· exact rfl); (· exact rfl); (· (first | (apply Find.box; (· (repeat (first | exact List.Mem.head _ | apply List.Mem.tail))); rfl) | exact Find.mem (by assumption) | (refine Find.row (by (repeat (first | exact List.Mem.head _ | apply List.Mem.tail))) ?_; assumption)))
      refine hK.out _ _ (by first | exact hS.sx0 | exact Sx.le (by assumption) hS.sx0) (fun hHeld => ?_)
      clear hK K
      try simp only [Act.put, List.setIfInBounds_toArray, List.set_cons_zero, List.set_cons_succ]
      refine wpAnyH_ready (rs := [2]) (by kernel_rfl) (by simp) ?_
      refine consL 2 rfl (fun K hK => ?_) AllReadyH.nil
      rw [if_pos (by rfl)]; go_simp; refine (bclone_c _ _ hS.inw _ HB0.out).mono ?_; rintro e' w7 ⟨q7, c7, news7, rfl, hc7, hk7⟩; replace hS := hS.callOwn hk7; obtain ⟨rfl, _⟩ := cellsInt hc7; clear hk7 hc7; go_wp2_with fail
      refine hK.out _ _ (by first | exact hS.sx0 | exact Sx.le (by assumption) hS.sx0) (fun hHeld => ?_)
      clear hK K
      try simp only [Act.put, List.setIfInBounds_toArray, List.set_cons_zero, List.set_cons_succ]
      focus (refine takeL 6 (v := ?_) rfl (by kernel_rfl) (by kernel_rfl) (by kernel_rfl) (fun _ _ _ h => h) (by assumption) (by first | rfl | (go_simp <;> fail)) ?_ ?_; rotate_left; focus (intro w hSw; clear hSw; go_simp; try with_reducible rfl))
      try simp only [Act.put, List.setIfInBounds_toArray, List.set_cons_zero, List.set_cons_succ]
      refine wpAnyH_ready (rs := [5]) (by kernel_rfl) (by simp) ?_
      refine consL 5 rfl (fun K hK => ?_) AllReadyH.nil
      rw [if_pos (by rfl)]; go_simp; refine (wclone_c _ _ hS.inw _ HW1.out).mono ?_; rintro e' w10 ⟨q10, c10, news10, rfl, hc10, hk10⟩; replace hS := hS.callOwn hk10; clear hk10; go_wp2_with fail
      refine hK.out _ _ (by first | exact hS.sx0 | exact Sx.le (by assumption) hS.sx0) (fun hHeld => ?_)
      clear hK K
      try simp only [Act.put, List.setIfInBounds_toArray, List.set_cons_zero, List.set_cons_succ]
      refine wpAnyH_ready (rs := [7]) (by kernel_rfl) (by simp) ?_
      refine consL 7 rfl (fun K hK => ?_) AllReadyH.nil
      (with_reducible apply s_store hS); (· exact ⟨_, Try.underlying22, rfl, by kernel_rfl⟩); (· exact rfl); (· (first | (go_simp; done) | (go_simp; with_reducible rfl))); (· (first | rfl | assumption | (simp [Value.oneCell']; done))); (· (repeat (first | exact List.Mem.head _ | apply List.Mem.tail))); (· (repeat (first | exact SetsL.stop | apply SetsL.put | apply SetsL.skip))); (· (repeat (first | exact UpdB.head | apply UpdB.tail))); intro ws hS1; replace hS := hS1; clear hS1
      refine hK.out _ _ (by first | exact hS.sx0 | exact Sx.le (by assumption) hS.sx0) (fun hHeld => ?_)
      clear hK K
      try simp only [Act.put, List.setIfInBounds_toArray, List.set_cons_zero, List.set_cons_succ]
      focus (refine takeL 8 (v := ?_) rfl (by kernel_rfl) (by kernel_rfl) (by kernel_rfl) (fun _ _ _ h => h) (by assumption) (by first | rfl | (go_simp <;> fail)) ?_ ?_; rotate_left; focus (intro w hSw; clear hSw; go_simp; try with_reducible rfl))
      try simp only [Act.put, List.setIfInBounds_toArray, List.set_cons_zero, List.set_cons_succ]
      refine wpAnyH_ready (rs := [9]) (by kernel_rfl) (by simp) ?_
      refine consL 9 rfl (fun K hK => ?_) AllReadyH.nil
      (with_reducible apply s_store hS); (· exact ⟨_, Try.underlying42, rfl, by kernel_rfl⟩); (· exact rfl); (· (first | (go_simp; done) | (go_simp; with_reducible rfl))); (· (first | rfl | assumption | (simp [Value.oneCell']; done))); (· (repeat (first | exact List.Mem.head _ | apply List.Mem.tail))); (· (repeat (first | exact SetsL.stop | apply SetsL.put | apply SetsL.skip))); (· (repeat (first | exact UpdB.head | apply UpdB.tail))); intro ws hS1; replace hS := hS1; clear hS1
      refine hK.out _ _ (by first | exact hS.sx0 | exact Sx.le (by assumption) hS.sx0) (fun hHeld => ?_)
      clear hK K
      try simp only [Act.put, List.setIfInBounds_toArray, List.set_cons_zero, List.set_cons_succ]
      refine wpAnyH_done (by kernel_rfl) ?_ _
      refine NoPanic.normal ?_
    rotate_right
    focus
      rw [if_pos (by rfl)]; go_simp; refine (bclone_c _ _ hS.inw _ HB0.out).mono ?_; rintro e' w7 ⟨q7, c7, news7, rfl, hc7, hk7⟩; replace hS := hS.callOwn hk7; obtain ⟨rfl, _⟩ := cellsInt hc7; clear hk7 hc7; go_wp2_with fail
      refine hK.out _ _ (by first | exact hS.sx0 | exact Sx.le (by assumption) hS.sx0) (fun hHeld => ?_)
      clear hK K
      try simp only [Act.put, List.setIfInBounds_toArray, List.set_cons_zero, List.set_cons_succ]
      refine wpAnyH_ready (rs := [4]) (by kernel_rfl) (by simp) ?_
      refine consL 4 rfl (fun K hK => ?_) AllReadyH.nil
      (with_reducible apply s_load hS); (· exact Try.underlying42); (· exact rfl); (· exact rfl); (· (first | (apply Find.box; (· (repeat (first | exact List.Mem.head _ | apply List.Mem.tail))); rfl) | exact Find.mem (by assumption) | (refine Find.row (by (repeat (first | exact List.Mem.head _ | apply List.Mem.tail))) ?_; assumption)))
      refine hK.out _ _ (by first | exact hS.sx0 | exact Sx.le (by assumption) hS.sx0) (fun hHeld => ?_)
      clear hK K
      try simp only [Act.put, List.setIfInBounds_toArray, List.set_cons_zero, List.set_cons_succ]
      focus (refine takeL 6 (v := ?_) rfl (by kernel_rfl) (by kernel_rfl) (by kernel_rfl) (fun _ _ _ h => h) (by assumption) (by first | rfl | (go_simp <;> fail)) ?_ ?_; rotate_left; focus (intro w hSw; clear hSw; go_simp; try with_reducible rfl))
      try simp only [Act.put, List.setIfInBounds_toArray, List.set_cons_zero, List.set_cons_succ]
      refine wpAnyH_ready (rs := [5]) (by kernel_rfl) (by simp) ?_
      refine consL 5 rfl (fun K hK => ?_) AllReadyH.nil
      rw [if_pos (by rfl)]; go_simp; refine (wclone_c _ _ hS.inw _ HW1.out).mono ?_; rintro e' w10 ⟨q10, c10, news10, rfl, hc10, hk10⟩; replace hS := hS.callOwn hk10; clear hk10; go_wp2_with fail
      refine hK.out _ _ (by first | exact hS.sx0 | exact Sx.le (by assumption) hS.sx0) (fun hHeld => ?_)
      clear hK K
      try simp only [Act.put, List.setIfInBounds_toArray, List.set_cons_zero, List.set_cons_succ]
      refine wpAnyH_ready (rs := [7]) (by kernel_rfl) (by simp) ?_
      refine consL 7 rfl (fun K hK => ?_) AllReadyH.nil
      (with_reducible apply s_store hS); (· exact ⟨_, Try.underlying22, rfl, by kernel_rfl⟩); (· exact rfl); (· (first | (go_simp; done) | (go_simp; with_reducible rfl))); (· (first | rfl | assumption | (simp [Value.oneCell']; done))); (· (repeat (first | exact List.Mem.head _ | apply List.Mem.tail))); (· (repeat (first | exact SetsL.stop | apply SetsL.put | apply SetsL.skip))); (· (repeat (first | exact UpdB.head | apply UpdB.tail))); intro ws hS1; replace hS := hS1; clear hS1
      refine hK.out _ _ (by first | exact hS.sx0 | exact Sx.le (by assumption) hS.sx0) (fun hHeld => ?_)
      clear hK K
      try simp only [Act.put, List.setIfInBounds_toArray, List.set_cons_zero, List.set_cons_succ]
      focus (refine takeL 8 (v := ?_) rfl (by kernel_rfl) (by kernel_rfl) (by kernel_rfl) (fun _ _ _ h => h) (by assumption) (by first | rfl | (go_simp <;> fail)) ?_ ?_; rotate_left; focus (intro w hSw; clear hSw; go_simp; try with_reducible rfl))
      try simp only [Act.put, List.setIfInBounds_toArray, List.set_cons_zero, List.set_cons_succ]
      refine wpAnyH_ready (rs := [9]) (by kernel_rfl) (by simp) ?_
      refine consL 9 rfl (fun K hK => ?_) AllReadyH.nil
      (with_reducible apply s_store hS); (· exact ⟨_, Try.underlying42, rfl, by kernel_rfl⟩); (· exact rfl); (· (first | (go_simp; done) | (go_simp; with_reducible rfl))); (· (first | rfl | assumption | (simp [Value.oneCell']; done))); (· (repeat (first | exact List.Mem.head _ | apply List.Mem.tail))); (· (repeat (first | exact SetsL.stop | apply SetsL.put | apply SetsL.skip))); (· (repeat (first | exact UpdB.head | apply UpdB.tail))); intro ws hS1; replace hS := hS1; clear hS1
      refine hK.out _ _ (by first | exact hS.sx0 | exact Sx.le (by assumption) hS.sx0) (fun hHeld => ?_)
      clear hK K
      try simp only [Act.put, List.setIfInBounds_toArray, List.set_cons_zero, List.set_cons_succ]
      refine wpAnyH_done (by kernel_rfl) ?_ _
      refine NoPanic.normal ?_
  all_goals
    replace hS := ((hS.front (x := .box b1 _) (by (repeat (first | exact Out.head | apply Out.tail)))).front (x := .row 102 _ _ _ _) (by (repeat (first | exact Out.head | apply Out.tail)))).front (x := .row 5 _ _ _ _) (by (repeat (first | exact Out.head | apply Out.tail)))
    have HC := Lib.hid hc10
    clear hc10
    go_wp2_with (first 
    | ((with_reducible apply l_box (ty := 44) (y := (.tmp 0)) hS); (· (first | (go_simp; done) | (go_simp; with_reducible rfl))); (· exact rfl); intro w1 b1 hS1; replace hS := hS1; clear hS1)
    | ((with_reducible apply l_alloc (ty := 44) (dst := some 2) hS (.agg #[.slice none 0 0, .slice none 0 0, .int .i64 0, .bool false]) [.slice none 0 0, .slice none 0 0, .int .i64 0, .bool false]); (· kernel_rfl); (· rfl); intro w2 b2 hS1; replace hS := hS1; clear hS1)
    | ((with_reducible apply l_alloc (ty := 102) (dst := some 4) hS (.agg #[.int .i64 0, .slice none 0 0]) [.int .i64 0, .slice none 0 0]); (· kernel_rfl); (· rfl); intro w4 b4 hS1; replace hS := hS1; clear hS1)
    | ((with_reducible apply l_load hS); (· (first | exact Try.underlying22 | exact Try.underlying42)); (· exact rfl); (· exact rfl); (· (first | (apply Find.box; (· (repeat (first | exact List.Mem.head _ | apply List.Mem.tail))); rfl) | exact Find.mem (by assumption) | (refine Find.row (by (repeat (first | exact List.Mem.head _ | apply List.Mem.tail))) ?_; assumption))))
    | ((with_reducible apply g_load hS); (· (first | exact Try.underlying22 | exact Try.underlying42)); (· exact rfl); (· (first | rfl | (go_simp; done))); (· exact rfl); (· (first | (apply Find.box; (· (repeat (first | exact List.Mem.head _ | apply List.Mem.tail))); rfl) | exact Find.mem (by assumption) | (refine Find.row (by (repeat (first | exact List.Mem.head _ | apply List.Mem.tail))) ?_; assumption))))
    | ((with_reducible apply l_loads hS); (· (first | exact (show ∃ d, Try.prog.underlying 44 = some d ∧ d.isRow = true ∧ (Try.prog.info? 44).map (·.size) = some 4 from ⟨_, Try.underlying44, rfl, by kernel_rfl⟩) | exact (show ∃ d, Try.prog.underlying 102 = some d ∧ d.isRow = true ∧ (Try.prog.info? 102).map (·.size) = some 2 from ⟨_, Try.underlying102, rfl, by kernel_rfl⟩))); (· exact rfl); (· (first | (apply Finds.box; (· (repeat (first | exact List.Mem.head _ | apply List.Mem.tail))); (· (repeat (first | exact SubL.stop | apply SubL.take | apply SubL.skip))); done) | (refine Finds.mem2 (by assumption) ?_; first | rfl | assumption | (simp; done)) | (apply Finds.row; (· (repeat (first | exact List.Mem.head _ | apply List.Mem.tail))); (· assumption); (· rfl)))))
    | ((with_reducible apply g_loads hS); (· (first | exact (show ∃ d, Try.prog.underlying 44 = some d ∧ d.isRow = true ∧ (Try.prog.info? 44).map (·.size) = some 4 from ⟨_, Try.underlying44, rfl, by kernel_rfl⟩) | exact (show ∃ d, Try.prog.underlying 102 = some d ∧ d.isRow = true ∧ (Try.prog.info? 102).map (·.size) = some 2 from ⟨_, Try.underlying102, rfl, by kernel_rfl⟩))); (· (first | rfl | (go_simp; done))); (· exact rfl); (· (first | (apply Finds.box; (· (repeat (first | exact List.Mem.head _ | apply List.Mem.tail))); (· (repeat (first | exact SubL.stop | apply SubL.take | apply SubL.skip))); done) | (refine Finds.mem2 (by assumption) ?_; first | rfl | assumption | (simp; done)) | (apply Finds.row; (· (repeat (first | exact List.Mem.head _ | apply List.Mem.tail))); (· assumption); (· rfl)))))
    | ((with_reducible apply l_store hS); (· (first | exact ⟨_, Try.underlying22, rfl, by kernel_rfl⟩ | exact ⟨_, Try.underlying42, rfl, by kernel_rfl⟩)); (· exact rfl); (· (first | (go_simp; done) | (go_simp; with_reducible rfl))); (· (first | rfl | assumption | (simp [Value.oneCell']; done))); (· (repeat (first | exact List.Mem.head _ | apply List.Mem.tail))); (· (repeat (first | exact SetsL.stop | apply SetsL.put | apply SetsL.skip))); (· (repeat (first | exact UpdB.head | apply UpdB.tail))); intro ws hS1; replace hS := hS1; clear hS1)
    | ((with_reducible apply l_storeR hS); (· (first | exact ⟨_, Try.underlying22, rfl, by kernel_rfl⟩ | exact ⟨_, Try.underlying42, rfl, by kernel_rfl⟩)); (· exact rfl); (· (first | (go_simp; done) | (go_simp; with_reducible rfl))); (· (first | rfl | assumption | (simp [Value.oneCell']; done))); (· (repeat (first | exact RowAt.head | apply RowAt.tail))); (· (first | assumption | omega | (simp; omega))); intro ws hS1; replace hS := hS1; clear hS1)
    | ((with_reducible apply l_stores hS); (· (first | exact (show ∃ d, Try.prog.underlying 44 = some d ∧ d.isRow = true ∧ (Try.prog.info? 44).map (·.size) = some 4 from ⟨_, Try.underlying44, rfl, by kernel_rfl⟩) | exact (show ∃ d, Try.prog.underlying 102 = some d ∧ d.isRow = true ∧ (Try.prog.info? 102).map (·.size) = some 2 from ⟨_, Try.underlying102, rfl, by kernel_rfl⟩))); (· exact rfl); (· exact rfl); (· exact rfl); (· (first | assumption | (simp [Value.oneCell']; done))); (· (repeat (first | exact List.Mem.head _ | apply List.Mem.tail))); (· (repeat (first | exact SetsL.stop | apply SetsL.put | apply SetsL.skip))); (· (repeat (first | exact UpdB.head | apply UpdB.tail))); intro ws hS1; replace hS := hS1; clear hS1))
    go_loopw [16] (fun i wr => ∃ (k : Nat) (cells : List Value) (m' : Mem), k ≤ d.wet.length ∧ i = .int .i64 k ∧ m.Le m' ∧ CellsOf wrL m' cells d.wet ∧ St [] w m wr [.row 5 1 (.slice q7 d.dry.length c7) d.dry.length (d.dry.map (.int .u8)), .row 102 2 (.slice q10 d.wet.length c10) d.wet.length cells, .box b1 [.slice q7 d.dry.length c7, .slice q10 d.wet.length c10, .int .i64 d.fuse, .bool d.dead], .box b2 [.slice none 0 0, .slice none 0 0, .int .i64 0, .bool false]] m') (fun i _ => d.wet.length - (intOf i).toNat)
    case atStart => exact ⟨0, news10, m, Nat.zero_le _, rfl, Mem.Le.refl _, HC.out, hS⟩
    case round =>
      clear hS
      obtain ⟨k, cells, m', hk, rfl, hle, hcells, hS⟩ := hrel
      by_cases hlt : k < d.wet.length
      · obtain ⟨g, rfl, g1, g2⟩ := row_head (hS.row 1 rfl) (by omega)
        obtain ⟨v, hv, hk0, hk1, hset⟩ := wr_parts hcells k hlt
        obtain ⟨q, c, rfl, _⟩ := Lay.list_open hv
        have hg' : ∀ j v, [.int .i64 d.wet[k].pos, .slice q d.wet[k].b.length c][j]? = some v → cells[k * 2 + j]? = some v := fun j v hj => by
          match j, hj with
          | 0, hj => cases hj; exact hk0
          | 1, hj => cases hj; exact hk1
          | j + 2, hj => simp at hj
        have hl : k * 2 + 1 < cells.length := (List.getElem?_eq_some_iff.1 hk1).1
        have HV := Lib.hid hv
        have HL := Lib.hid hl
        have HS := Lib.hid hset
        have HB : Hid (d.wet[k].b.length * u8L.bytes ≤ 140737488355328) := by obtain ⟨_, _, e, _, _, h3, _⟩ := HV.out; exact h3
        have hkk : ¬ (d.wet.length : Int) ≤ (k : Int) := by omega
        simp only [maxLen] at g2
        clear hk0 hk1 hv hset hcells hl
        go_wp2_with (first 
    | ((with_reducible apply l_box (ty := 44) (y := (.tmp 0)) hS); (· (first | (go_simp; done) | (go_simp; with_reducible rfl))); (· exact rfl); intro w1 b1 hS1; replace hS := hS1; clear hS1)
    | ((with_reducible apply l_alloc (ty := 44) (dst := some 2) hS (.agg #[.slice none 0 0, .slice none 0 0, .int .i64 0, .bool false]) [.slice none 0 0, .slice none 0 0, .int .i64 0, .bool false]); (· kernel_rfl); (· rfl); intro w2 b2 hS1; replace hS := hS1; clear hS1)
    | ((with_reducible apply l_alloc (ty := 102) (dst := some 4) hS (.agg #[.int .i64 0, .slice none 0 0]) [.int .i64 0, .slice none 0 0]); (· kernel_rfl); (· rfl); intro w4 b4 hS1; replace hS := hS1; clear hS1)
    | ((with_reducible apply l_load hS); (· (first | exact Try.underlying22 | exact Try.underlying42)); (· exact rfl); (· exact rfl); (· (first | (apply Find.box; (· (repeat (first | exact List.Mem.head _ | apply List.Mem.tail))); rfl) | exact Find.mem (by assumption) | (refine Find.row (by (repeat (first | exact List.Mem.head _ | apply List.Mem.tail))) ?_; assumption))))
    | ((with_reducible apply g_load hS); (· (first | exact Try.underlying22 | exact Try.underlying42)); (· exact rfl); (· (first | rfl | (go_simp; done))); (· exact rfl); (· (first | (apply Find.box; (· (repeat (first | exact List.Mem.head _ | apply List.Mem.tail))); rfl) | exact Find.mem (by assumption) | (refine Find.row (by (repeat (first | exact List.Mem.head _ | apply List.Mem.tail))) ?_; assumption))))
    | ((with_reducible apply l_loads hS); (· (first | exact (show ∃ d, Try.prog.underlying 44 = some d ∧ d.isRow = true ∧ (Try.prog.info? 44).map (·.size) = some 4 from ⟨_, Try.underlying44, rfl, by kernel_rfl⟩) | exact (show ∃ d, Try.prog.underlying 102 = some d ∧ d.isRow = true ∧ (Try.prog.info? 102).map (·.size) = some 2 from ⟨_, Try.underlying102, rfl, by kernel_rfl⟩))); (· exact rfl); (· (first | (apply Finds.box; (· (repeat (first | exact List.Mem.head _ | apply List.Mem.tail))); (· (repeat (first | exact SubL.stop | apply SubL.take | apply SubL.skip))); done) | (refine Finds.mem2 (by assumption) ?_; first | rfl | assumption | (simp; done)) | (apply Finds.row; (· (repeat (first | exact List.Mem.head _ | apply List.Mem.tail))); (· assumption); (· rfl)))))
    | ((with_reducible apply g_loads hS); (· (first | exact (show ∃ d, Try.prog.underlying 44 = some d ∧ d.isRow = true ∧ (Try.prog.info? 44).map (·.size) = some 4 from ⟨_, Try.underlying44, rfl, by kernel_rfl⟩) | exact (show ∃ d, Try.prog.underlying 102 = some d ∧ d.isRow = true ∧ (Try.prog.info? 102).map (·.size) = some 2 from ⟨_, Try.underlying102, rfl, by kernel_rfl⟩))); (· (first | rfl | (go_simp; done))); (· exact rfl); (· (first | (apply Finds.box; (· (repeat (first | exact List.Mem.head _ | apply List.Mem.tail))); (· (repeat (first | exact SubL.stop | apply SubL.take | apply SubL.skip))); done) | (refine Finds.mem2 (by assumption) ?_; first | rfl | assumption | (simp; done)) | (apply Finds.row; (· (repeat (first | exact List.Mem.head _ | apply List.Mem.tail))); (· assumption); (· rfl)))))
    | ((with_reducible apply l_store hS); (· (first | exact ⟨_, Try.underlying22, rfl, by kernel_rfl⟩ | exact ⟨_, Try.underlying42, rfl, by kernel_rfl⟩)); (· exact rfl); (· (first | (go_simp; done) | (go_simp; with_reducible rfl))); (· (first | rfl | assumption | (simp [Value.oneCell']; done))); (· (repeat (first | exact List.Mem.head _ | apply List.Mem.tail))); (· (repeat (first | exact SetsL.stop | apply SetsL.put | apply SetsL.skip))); (· (repeat (first | exact UpdB.head | apply UpdB.tail))); intro ws hS1; replace hS := hS1; clear hS1)
    | ((with_reducible apply l_storeR hS); (· (first | exact ⟨_, Try.underlying22, rfl, by kernel_rfl⟩ | exact ⟨_, Try.underlying42, rfl, by kernel_rfl⟩)); (· exact rfl); (· (first | (go_simp; done) | (go_simp; with_reducible rfl))); (· (first | rfl | assumption | (simp [Value.oneCell']; done))); (· (repeat (first | exact RowAt.head | apply RowAt.tail))); (· (first | assumption | omega | (simp; omega))); intro ws hS1; replace hS := hS1; clear hS1)
    | ((with_reducible apply l_stores hS); (· (first | exact (show ∃ d, Try.prog.underlying 44 = some d ∧ d.isRow = true ∧ (Try.prog.info? 44).map (·.size) = some 4 from ⟨_, Try.underlying44, rfl, by kernel_rfl⟩) | exact (show ∃ d, Try.prog.underlying 102 = some d ∧ d.isRow = true ∧ (Try.prog.info? 102).map (·.size) = some 2 from ⟨_, Try.underlying102, rfl, by kernel_rfl⟩))); (· exact rfl); (· exact rfl); (· exact rfl); (· (first | assumption | (simp [Value.oneCell']; done))); (· (repeat (first | exact List.Mem.head _ | apply List.Mem.tail))); (· (repeat (first | exact SetsL.stop | apply SetsL.put | apply SetsL.skip))); (· (repeat (first | exact UpdB.head | apply UpdB.tail))); intro ws hS1; replace hS := hS1; clear hS1))
        replace hS := hS.drew
        refine startL (S := Sx _ [(b1, _), (b4, _)]) (by kernel_rfl) ((hS.sx0.cons hS (by (repeat (first | exact List.Mem.head _ | apply List.Mem.tail)))).cons hS (by (repeat (first | exact List.Mem.head _ | apply List.Mem.tail)))) (fun _ _ _ _ => trivial) (fun hHeld => ?_)
        focus (refine takeL 0 (v := ?_) rfl (by kernel_rfl) (by kernel_rfl) (by kernel_rfl) (fun _ _ _ h => h) (by assumption) (by first | rfl | (go_simp <;> fail)) ?_ ?_; rotate_left; focus (intro w hSw; clear hSw; go_simp; try with_reducible rfl))
        try simp only [Act.put, List.setIfInBounds_toArray, List.set_cons_zero, List.set_cons_succ]
        refine takeL 1 rfl (by kernel_rfl) (by kernel_rfl) (by kernel_rfl) (fun _ _ _ h => h) (by assumption) (by first | rfl | (go_simp <;> fail)) (yield_load rfl Try.underlying42 rfl rfl (by (first | (apply FindX.box; (· (repeat (first | exact List.Mem.head _ | apply List.Mem.tail))); rfl) | exact FindX.mem (by assumption)))) ?_
        try simp only [Act.put, List.setIfInBounds_toArray, List.set_cons_zero, List.set_cons_succ]
        focus (refine takeL 2 (v := ?_) rfl (by kernel_rfl) (by kernel_rfl) (by kernel_rfl) (fun _ _ _ h => h) (by assumption) (by first | rfl | (go_simp <;> fail)) ?_ ?_; rotate_left; focus (intro w hSw; clear hSw; go_simp; try with_reducible rfl))
        try simp only [Act.put, List.setIfInBounds_toArray, List.set_cons_zero, List.set_cons_succ]
        focus (refine takeL 3 (v := ?_) rfl (by kernel_rfl) (by kernel_rfl) (by kernel_rfl) (fun _ _ _ h => h) (by assumption) (by first | rfl | (go_simp <;> fail)) ?_ ?_; rotate_left; focus (intro w hSw; clear hSw; go_simp; try with_reducible rfl))
        try simp only [Act.put, List.setIfInBounds_toArray, List.set_cons_zero, List.set_cons_succ]
        refine takeL 4 rfl (by kernel_rfl) (by kernel_rfl) (by kernel_rfl) (fun _ _ _ h => h) (by assumption) (by first | rfl | (go_simp <;> fail)) (yield_load rfl Try.underlying22 rfl rfl (by (first | (apply FindX.box; (· (repeat (first | exact List.Mem.head _ | apply List.Mem.tail))); rfl) | exact FindX.mem (by assumption)))) ?_
        try simp only [Act.put, List.setIfInBounds_toArray, List.set_cons_zero, List.set_cons_succ]
        refine wpAnyH_ready (rs := [5]) (by kernel_rfl) (by simp) ?_
        refine consL 5 rfl (fun K hK => ?_) AllReadyH.nil
        rw [if_pos (by rfl)]; go_simp; refine (bclone_c _ _ hS.inw _ HV.out).mono ?_; rintro e' w26 ⟨q26, c26, news26, rfl, hc26, hk26⟩; replace hS := hS.callOwn hk26; clear hk26; go_wp2_with fail
        refine hK.out _ _ (by first | exact ((hS.sx0.cons hS (by (repeat (first | exact List.Mem.head _ | apply List.Mem.tail)))).cons hS (by (repeat (first | exact List.Mem.head _ | apply List.Mem.tail)))) | exact Sx.le (by assumption) ((hS.sx0.cons hS (by (repeat (first | exact List.Mem.head _ | apply List.Mem.tail)))).cons hS (by (repeat (first | exact List.Mem.head _ | apply List.Mem.tail))))) (fun hHeld => ?_)
        clear hK K
        try simp only [Act.put, List.setIfInBounds_toArray, List.set_cons_zero, List.set_cons_succ]
        focus (refine takeL 6 (v := ?_) rfl (by kernel_rfl) (by kernel_rfl) (by kernel_rfl) (fun _ _ _ h => h) (by assumption) (by first | rfl | (go_simp <;> fail)) ?_ ?_; rotate_left; focus (intro w hSw; clear hSw; go_simp; try with_reducible rfl))
        try simp only [Act.put, List.setIfInBounds_toArray, List.set_cons_zero, List.set_cons_succ]
        focus (refine takeL 7 (v := ?_) rfl (by kernel_rfl) (by kernel_rfl) (by kernel_rfl) (fun _ _ _ h => h) (by assumption) (by first | rfl | (go_simp <;> fail)) ?_ ?_; rotate_left; focus (intro w hSw; clear hSw; go_simp; try with_reducible rfl))
        try simp only [Act.put, List.setIfInBounds_toArray, List.set_cons_zero, List.set_cons_succ]
        refine wpAnyH_ready (rs := [8]) (by kernel_rfl) (by simp) ?_
        refine consL 8 rfl (fun K hK => ?_) AllReadyH.nil
        (with_reducible apply s_storeR hS); (· exact ⟨_, Try.underlying22, rfl, by kernel_rfl⟩); (· exact rfl); (· (first | (go_simp; done) | (go_simp; with_reducible rfl))); (· rfl); (· (repeat (first | exact RowAt.head | apply RowAt.tail))); (· exact HL.out); intro ws hS1; replace hS := hS1; clear hS1
        refine hK.out _ _ (by first | exact ((hS.sx0.cons hS (by (repeat (first | exact List.Mem.head _ | apply List.Mem.tail)))).cons hS (by (repeat (first | exact List.Mem.head _ | apply List.Mem.tail)))) | exact Sx.le (by assumption) ((hS.sx0.cons hS (by (repeat (first | exact List.Mem.head _ | apply List.Mem.tail)))).cons hS (by (repeat (first | exact List.Mem.head _ | apply List.Mem.tail))))) (fun hHeld => ?_)
        clear hK K
        try simp only [Act.put, List.setIfInBounds_toArray, List.set_cons_zero, List.set_cons_succ]
        refine wpAnyH_done (by kernel_rfl) ?_ _
        refine NoPanic.normal ?_
        go_wp2_with (first 
    | ((with_reducible apply l_box (ty := 44) (y := (.tmp 0)) hS); (· (first | (go_simp; done) | (go_simp; with_reducible rfl))); (· exact rfl); intro w1 b1 hS1; replace hS := hS1; clear hS1)
    | ((with_reducible apply l_alloc (ty := 44) (dst := some 2) hS (.agg #[.slice none 0 0, .slice none 0 0, .int .i64 0, .bool false]) [.slice none 0 0, .slice none 0 0, .int .i64 0, .bool false]); (· kernel_rfl); (· rfl); intro w2 b2 hS1; replace hS := hS1; clear hS1)
    | ((with_reducible apply l_alloc (ty := 102) (dst := some 4) hS (.agg #[.int .i64 0, .slice none 0 0]) [.int .i64 0, .slice none 0 0]); (· kernel_rfl); (· rfl); intro w4 b4 hS1; replace hS := hS1; clear hS1)
    | ((with_reducible apply l_load hS); (· (first | exact Try.underlying22 | exact Try.underlying42)); (· exact rfl); (· exact rfl); (· (first | (apply Find.box; (· (repeat (first | exact List.Mem.head _ | apply List.Mem.tail))); rfl) | exact Find.mem (by assumption) | (refine Find.row (by (repeat (first | exact List.Mem.head _ | apply List.Mem.tail))) ?_; assumption))))
    | ((with_reducible apply g_load hS); (· (first | exact Try.underlying22 | exact Try.underlying42)); (· exact rfl); (· (first | rfl | (go_simp; done))); (· exact rfl); (· (first | (apply Find.box; (· (repeat (first | exact List.Mem.head _ | apply List.Mem.tail))); rfl) | exact Find.mem (by assumption) | (refine Find.row (by (repeat (first | exact List.Mem.head _ | apply List.Mem.tail))) ?_; assumption))))
    | ((with_reducible apply l_loads hS); (· (first | exact (show ∃ d, Try.prog.underlying 44 = some d ∧ d.isRow = true ∧ (Try.prog.info? 44).map (·.size) = some 4 from ⟨_, Try.underlying44, rfl, by kernel_rfl⟩) | exact (show ∃ d, Try.prog.underlying 102 = some d ∧ d.isRow = true ∧ (Try.prog.info? 102).map (·.size) = some 2 from ⟨_, Try.underlying102, rfl, by kernel_rfl⟩))); (· exact rfl); (· (first | (apply Finds.box; (· (repeat (first | exact List.Mem.head _ | apply List.Mem.tail))); (· (repeat (first | exact SubL.stop | apply SubL.take | apply SubL.skip))); done) | (refine Finds.mem2 (by assumption) ?_; first | rfl | assumption | (simp; done)) | (apply Finds.row; (· (repeat (first | exact List.Mem.head _ | apply List.Mem.tail))); (· assumption); (· rfl)))))
    | ((with_reducible apply g_loads hS); (· (first | exact (show ∃ d, Try.prog.underlying 44 = some d ∧ d.isRow = true ∧ (Try.prog.info? 44).map (·.size) = some 4 from ⟨_, Try.underlying44, rfl, by kernel_rfl⟩) | exact (show ∃ d, Try.prog.underlying 102 = some d ∧ d.isRow = true ∧ (Try.prog.info? 102).map (·.size) = some 2 from ⟨_, Try.underlying102, rfl, by kernel_rfl⟩))); (· (first | rfl | (go_simp; done))); (· exact rfl); (· (first | (apply Finds.box; (· (repeat (first | exact List.Mem.head _ | apply List.Mem.tail))); (· (repeat (first | exact SubL.stop | apply SubL.take | apply SubL.skip))); done) | (refine Finds.mem2 (by assumption) ?_; first | rfl | assumption | (simp; done)) | (apply Finds.row; (· (repeat (first | exact List.Mem.head _ | apply List.Mem.tail))); (· assumption); (· rfl)))))
    | ((with_reducible apply l_store hS); (· (first | exact ⟨_, Try.underlying22, rfl, by kernel_rfl⟩ | exact ⟨_, Try.underlying42, rfl, by kernel_rfl⟩)); (· exact rfl); (· (first | (go_simp; done) | (go_simp; with_reducible rfl))); (· (first | rfl | assumption | (simp [Value.oneCell']; done))); (· (repeat (first | exact List.Mem.head _ | apply List.Mem.tail))); (· (repeat (first | exact SetsL.stop | apply SetsL.put | apply SetsL.skip))); (· (repeat (first | exact UpdB.head | apply UpdB.tail))); intro ws hS1; replace hS := hS1; clear hS1)
    | ((with_reducible apply l_storeR hS); (· (first | exact ⟨_, Try.underlying22, rfl, by kernel_rfl⟩ | exact ⟨_, Try.underlying42, rfl, by kernel_rfl⟩)); (· exact rfl); (· (first | (go_simp; done) | (go_simp; with_reducible rfl))); (· (first | rfl | assumption | (simp [Value.oneCell']; done))); (· (repeat (first | exact RowAt.head | apply RowAt.tail))); (· (first | assumption | omega | (simp; omega))); intro ws hS1; replace hS := hS1; clear hS1)
    | ((with_reducible apply l_stores hS); (· (first | exact (show ∃ d, Try.prog.underlying 44 = some d ∧ d.isRow = true ∧ (Try.prog.info? 44).map (·.size) = some 4 from ⟨_, Try.underlying44, rfl, by kernel_rfl⟩) | exact (show ∃ d, Try.prog.underlying 102 = some d ∧ d.isRow = true ∧ (Try.prog.info? 102).map (·.size) = some 2 from ⟨_, Try.underlying102, rfl, by kernel_rfl⟩))); (· exact rfl); (· exact rfl); (· exact rfl); (· (first | assumption | (simp [Value.oneCell']; done))); (· (repeat (first | exact List.Mem.head _ | apply List.Mem.tail))); (· (repeat (first | exact SetsL.stop | apply SetsL.put | apply SetsL.skip))); (· (repeat (first | exact UpdB.head | apply UpdB.tail))); intro ws hS1; replace hS := hS1; clear hS1))
        go_roundw
        case rel =>
          obtain ⟨m2, hS2, hle2, hrd⟩ := hS.settleRow (L := u8L) 0 rfl hc26 HB.out
          replace hS2 := hS2.forget (x := .box b4 _) (by (repeat (first | exact Out.head | apply Out.tail)))
          exact ⟨k + 1, _, m2, hlt, by go_num, hle.trans hle2, HS.out m2 _ hle2 hrd, (hS2.front (x := .row 102 _ _ _ _) (by (repeat (first | exact Out.head | apply Out.tail)))).front (x := .row 5 _ _ _ _) (by (repeat (first | exact Out.head | apply Out.tail)))⟩
        case measure => simp [intOf]; omega
      · obtain rfl : k = d.wet.length := by omega
        have HG := Lib.hid hcells
        clear hcells
        go_wp2_with (first 
    | ((with_reducible apply l_box (ty := 44) (y := (.tmp 0)) hS); (· (first | (go_simp; done) | (go_simp; with_reducible rfl))); (· exact rfl); intro w1 b1 hS1; replace hS := hS1; clear hS1)
    | ((with_reducible apply l_alloc (ty := 44) (dst := some 2) hS (.agg #[.slice none 0 0, .slice none 0 0, .int .i64 0, .bool false]) [.slice none 0 0, .slice none 0 0, .int .i64 0, .bool false]); (· kernel_rfl); (· rfl); intro w2 b2 hS1; replace hS := hS1; clear hS1)
    | ((with_reducible apply l_alloc (ty := 102) (dst := some 4) hS (.agg #[.int .i64 0, .slice none 0 0]) [.int .i64 0, .slice none 0 0]); (· kernel_rfl); (· rfl); intro w4 b4 hS1; replace hS := hS1; clear hS1)
    | ((with_reducible apply l_load hS); (· (first | exact Try.underlying22 | exact Try.underlying42)); (· exact rfl); (· exact rfl); (· (first | (apply Find.box; (· (repeat (first | exact List.Mem.head _ | apply List.Mem.tail))); rfl) | exact Find.mem (by assumption) | (refine Find.row (by (repeat (first | exact List.Mem.head _ | apply List.Mem.tail))) ?_; assumption))))
    | ((with_reducible apply g_load hS); (· (first | exact Try.underlying22 | exact Try.underlying42)); (· exact rfl); (· (first | rfl | (go_simp; done))); (· exact rfl); (· (first | (apply Find.box; (· (repeat (first | exact List.Mem.head _ | apply List.Mem.tail))); rfl) | exact Find.mem (by assumption) | (refine Find.row (by (repeat (first | exact List.Mem.head _ | apply List.Mem.tail))) ?_; assumption))))
    | ((with_reducible apply l_loads hS); (· (first | exact (show ∃ d, Try.prog.underlying 44 = some d ∧ d.isRow = true ∧ (Try.prog.info? 44).map (·.size) = some 4 from ⟨_, Try.underlying44, rfl, by kernel_rfl⟩) | exact (show ∃ d, Try.prog.underlying 102 = some d ∧ d.isRow = true ∧ (Try.prog.info? 102).map (·.size) = some 2 from ⟨_, Try.underlying102, rfl, by kernel_rfl⟩))); (· exact rfl); (· (first | (apply Finds.box; (· (repeat (first | exact List.Mem.head _ | apply List.Mem.tail))); (· (repeat (first | exact SubL.stop | apply SubL.take | apply SubL.skip))); done) | (refine Finds.mem2 (by assumption) ?_; first | rfl | assumption | (simp; done)) | (apply Finds.row; (· (repeat (first | exact List.Mem.head _ | apply List.Mem.tail))); (· assumption); (· rfl)))))
    | ((with_reducible apply g_loads hS); (· (first | exact (show ∃ d, Try.prog.underlying 44 = some d ∧ d.isRow = true ∧ (Try.prog.info? 44).map (·.size) = some 4 from ⟨_, Try.underlying44, rfl, by kernel_rfl⟩) | exact (show ∃ d, Try.prog.underlying 102 = some d ∧ d.isRow = true ∧ (Try.prog.info? 102).map (·.size) = some 2 from ⟨_, Try.underlying102, rfl, by kernel_rfl⟩))); (· (first | rfl | (go_simp; done))); (· exact rfl); (· (first | (apply Finds.box; (· (repeat (first | exact List.Mem.head _ | apply List.Mem.tail))); (· (repeat (first | exact SubL.stop | apply SubL.take | apply SubL.skip))); done) | (refine Finds.mem2 (by assumption) ?_; first | rfl | assumption | (simp; done)) | (apply Finds.row; (· (repeat (first | exact List.Mem.head _ | apply List.Mem.tail))); (· assumption); (· rfl)))))
    | ((with_reducible apply l_store hS); (· (first | exact ⟨_, Try.underlying22, rfl, by kernel_rfl⟩ | exact ⟨_, Try.underlying42, rfl, by kernel_rfl⟩)); (· exact rfl); (· (first | (go_simp; done) | (go_simp; with_reducible rfl))); (· (first | rfl | assumption | (simp [Value.oneCell']; done))); (· (repeat (first | exact List.Mem.head _ | apply List.Mem.tail))); (· (repeat (first | exact SetsL.stop | apply SetsL.put | apply SetsL.skip))); (· (repeat (first | exact UpdB.head | apply UpdB.tail))); intro ws hS1; replace hS := hS1; clear hS1)
    | ((with_reducible apply l_storeR hS); (· (first | exact ⟨_, Try.underlying22, rfl, by kernel_rfl⟩ | exact ⟨_, Try.underlying42, rfl, by kernel_rfl⟩)); (· exact rfl); (· (first | (go_simp; done) | (go_simp; with_reducible rfl))); (· (first | rfl | assumption | (simp [Value.oneCell']; done))); (· (repeat (first | exact RowAt.head | apply RowAt.tail))); (· (first | assumption | omega | (simp; omega))); intro ws hS1; replace hS := hS1; clear hS1)
    | ((with_reducible apply l_stores hS); (· (first | exact (show ∃ d, Try.prog.underlying 44 = some d ∧ d.isRow = true ∧ (Try.prog.info? 44).map (·.size) = some 4 from ⟨_, Try.underlying44, rfl, by kernel_rfl⟩) | exact (show ∃ d, Try.prog.underlying 102 = some d ∧ d.isRow = true ∧ (Try.prog.info? 102).map (·.size) = some 2 from ⟨_, Try.underlying102, rfl, by kernel_rfl⟩))); (· exact rfl); (· exact rfl); (· exact rfl); (· (first | assumption | (simp [Value.oneCell']; done))); (· (repeat (first | exact List.Mem.head _ | apply List.Mem.tail))); (· (repeat (first | exact SetsL.stop | apply SetsL.put | apply SetsL.skip))); (· (repeat (first | exact UpdB.head | apply UpdB.tail))); intro ws hS1; replace hS := hS1; clear hS1))
        (try simp only [Exit.inBlock, Exit.then])
        refine ret_cell (n := 4) rfl rfl hS (by (repeat (first | exact List.Mem.head _ | apply List.Mem.tail))) (by rfl) dkRow rfl ?_
        exact ⟨_, _, _, m', rfl, HG.out, (hS.forget (x := .box b1 _) (by (repeat (first | exact Out.head | apply Out.tail)))).forget (x := .box b2 _) (by (repeat (first | exact Out.head | apply Out.tail)))⟩
end Go.Proofs.Ytnmgiiaejpaeeaa
/- What a call is lent; disk.settle over the state of a walk. -/
namespace Go.Proofs.Ytnmgiiaejpaeeaa
set_option linter.unusedVariables false
set_option linter.unusedSimpArgs false
open Go.RowKit Go.Shelf
section
variable {X X0 : List Nat} {w0 w w' : World} {m0 m m' : Mem} {es ls ls' rest : List Ent}
theorem Ent.ok.same {x : Ent} (h : x.ok w) (hs : ∀ b, x.blk = some b → w'.heap[b]? = w.heap[b]?) : x.ok w' := by
  cases x with
  | box b cs =>
    obtain ⟨t, ht⟩ := h
    exact ⟨t, (hs b rfl).trans ht⟩
  | row e size v n xs =>
    refine ⟨h.1, ?_⟩
    rcases h.2 with h2 | ⟨g, cap, cur, rfl, hb, hg, r⟩
    · exact .inl h2
    · exact .inr ⟨g, cap, cur, rfl, hb, (hs g rfl).trans hg, r⟩
theorem St.sub (h : St X0 w0 m0 w (ls ++ rest) m) : St (ls.filterMap Ent.blk) w m w ls m := by
  have hd := h.drop ls (List.sublist_append_left _ _)
  exact ⟨Kept.refl _ _, fun x hx => ⟨(hd.has x hx).1, fun b hb => .inr (List.mem_filterMap.2 ⟨x, hx, hb⟩)⟩, hd.apart, hd.know, Mem.Le.refl _, fun a v hv => .inl hv⟩
theorem St.subGe (h : St [] w0 m0 w (ls ++ rest) m) : ∀ b, b ∈ ls.filterMap Ent.blk → w0.heap.size ≤ b := fun b hb => by
  obtain ⟨x, hx, e⟩ : ∃ x ∈ ls, x.blk = some b := by simpa using hb
  simpa using (h.has x (List.mem_append.2 (.inl hx))).2 b e
/-- While things are lent, the others, and what is known, stay. -/
theorem St.keptRest {W : World} (h : St X0 w0 m0 w (ls ++ rest) m) (hk : Kept (ls.filterMap Ent.blk) w W) : (∀ y ∈ rest, y.ok W) ∧ m.In W := by
  have hX : ∀ b, b ∈ ls.filterMap Ent.blk → ∃ x ∈ ls, x.blk = some b := fun b hb => by simpa using hb
  have hap := List.pairwise_append.1 h.apart
  refine ⟨fun y hy => Ent.ok.same (h.has y (List.mem_append.2 (.inr hy))).1 fun b hb => hk.block b ((h.has y (List.mem_append.2 (.inr hy))).1.lt b hb) fun hm => ?_, fun a v hv => ?_⟩
  · obtain ⟨x, hx, e⟩ := hX b hm
    exact hap.2.2 x hx y hy b e hb
  · obtain ⟨h1, h2⟩ := h.know a v hv
    refine (World.cell?_of_block (hk.block _ (World.block_lt_of_cell? w a h1) fun hm => ?_)).trans h1
    obtain ⟨x, hx, e⟩ := hX _ hm
    exact h2 x (List.mem_append.2 (.inl hx)) e
/-- A call that is lent things: what came of them. -/
theorem St.lendL (h : St X0 w0 m0 w (ls ++ rest) m) (k : St (ls.filterMap Ent.blk) w m w' ls' m') : St X0 w0 m0 w' (ls' ++ rest) m' := by
  have hX : ∀ b, b ∈ ls.filterMap Ent.blk → ∃ x ∈ ls, x.blk = some b := fun b hb => by simpa using hb
  have hold : ∀ b, b < w0.heap.size → b ∉ X0 → b ∉ ls.filterMap Ent.blk := fun b hb hX0 hm => by
    obtain ⟨x, hx, e⟩ := hX b hm
    rcases (h.has x (List.mem_append.2 (.inl hx))).2 b e with h1 | h1
    · omega
    · exact hX0 h1
  have hap := List.pairwise_append.1 h.apart
  have hrest : ∀ y ∈ rest, ∀ b, y.blk = some b → b < w.heap.size ∧ b ∉ ls.filterMap Ent.blk := fun y hy b hb => ⟨(h.has y (List.mem_append.2 (.inr hy))).1.lt b hb, fun hm => by
    obtain ⟨x, hx, e⟩ := hX b hm
    exact hap.2.2 x hx y hy b e hb⟩
  refine ⟨⟨k.kept.os.trans h.kept.os, k.kept.tape.trans h.kept.tape, k.kept.output.trans h.kept.output, Nat.le_trans h.kept.size k.kept.size, fun b hb hn => (k.kept.block b (Nat.lt_of_lt_of_le hb h.kept.size) (hold b hb hn)).trans (h.kept.block b hb hn)⟩, fun x hx => ?_, ?_, fun a v hv => ⟨(k.know a v hv).1, fun x hx e => ?_⟩, h.le.trans k.le, fun a v hv => ?_⟩
  · rcases List.mem_append.1 hx with hx | hx
    · refine ⟨(k.has x hx).1, fun b hb => ?_⟩
      rcases (k.has x hx).2 b hb with h1 | h1
      · exact .inl (Nat.le_trans h.kept.size h1)
      · obtain ⟨y, hy, e⟩ := hX b h1
        exact (h.has y (List.mem_append.2 (.inl hy))).2 b e
    · exact ⟨Ent.ok.same (h.has x (List.mem_append.2 (.inr hx))).1 fun b hb => k.kept.block b (hrest x hx b hb).1 (hrest x hx b hb).2, (h.has x (List.mem_append.2 (.inr hx))).2⟩
  · refine List.pairwise_append.2 ⟨k.apart, hap.2.1, fun x hx y hy b h1 h2 => ?_⟩
    rcases (k.has x hx).2 b h1 with h3 | h3
    · have := (hrest y hy b h2).1; omega
    · exact (hrest y hy b h2).2 h3
  · rcases List.mem_append.1 hx with hx | hx
    · exact (k.know a v hv).2 x hx e
    · rcases k.new a v hv with h1 | h1 | h1
      · exact (h.know a v h1).2 x (List.mem_append.2 (.inr hx)) e
      · have := (hrest x hx _ e).1; omega
      · exact (hrest x hx _ e).2 h1
  · rcases k.new a v hv with h1 | h1 | h1
    · exact h.new a v h1
    · exact .inr (.inl (Nat.le_trans h.kept.size h1))
    · obtain ⟨x, hx, e⟩ := hX _ h1
      exact .inr ((h.has x (List.mem_append.2 (.inl hx))).2 _ e)
end
set_option maxRecDepth 100000 in
set_option maxHeartbeats 4000000 in
theorem settle_c (X : List Nat) (m : Mem) (w : World) (T gd cd : Nat) (vq : Value) (fv bv : Value) (d : Dk) (hS : St X w m w [.box T [.slice (some ⟨gd, 0, none⟩) d.dry.length cd, vq, fv, bv], .row 5 1 (.slice (some ⟨gd, 0, none⟩) d.dry.length cd) d.dry.length (d.dry.map (.int .u8))] m)
    (hq : wrL.list.rd m [vq] d.wet) (hp : Placed d) (hd : d.dry.length ≤ 262144) (hx : d.wet.length ≤ 8192) (gf : Nat) (lb : Array Value) (eg : Enters Try.prog gf) (many : Nat → Nat) (hmany : ∀ i, many i ≤ 32)
    (hm : ∀ (k : Nat) W, Kept X w W → k < d.wet.length → Calls Try.prog gf (#[.int .i64 k] ++ lb) W fun e' W' => e' = .returned (.int .i64 (many k)) ∧ W = W') :
    Calls Try.prog 75 #[.pointer (some ⟨T, 0, none⟩), .func (.func gf) #[] lb] w fun e w' => e = .returned (.tuple #[]) ∧
      St X w m w' [.box T [.slice (some ⟨gd, 0, none⟩) d.dry.length cd, .slice none 0 0, fv, bv], .row 5 1 (.slice (some ⟨gd, 0, none⟩) d.dry.length cd) d.dry.length ((settleAt many 0 d.wet d.dry).map (.int .u8))] m := by
  obtain ⟨pq, cq, rfl, q1, q2, q3, q4⟩ := Lay.list_open hq
  have H4 := Lib.hid q4
  have HP := Lib.hid hp
  have HM := Lib.hid hm
  have HMN := Lib.hid hmany
  have HDL := Lib.hid hd
  simp only [maxLen] at q2
  unfold Enters at eg
  clear hq q3 q4 hp hm hmany hd
  go_enter Try.func75, Try.ntmps75
  go_wp2_with (first 
    | ((with_reducible apply l_alloc (ty := 102) (dst := some 5) hS (.agg #[.int .i64 0, .slice none 0 0]) [.int .i64 0, .slice none 0 0]); (· kernel_rfl); (· rfl); intro w5 b5 hS1; replace hS := hS1; clear hS1)
    | ((with_reducible apply l_load hS); (· (first | exact Try.underlying3 | exact Try.underlying22 | exact Try.underlying42)); (· exact rfl); (· exact rfl); (· (first | (apply Find.box; (· (repeat (first | exact List.Mem.head _ | apply List.Mem.tail))); rfl) | exact Find.mem (by assumption) | (refine Find.row (by (repeat (first | exact List.Mem.head _ | apply List.Mem.tail))) ?_; assumption))))
    | ((with_reducible apply g_load hS); (· (first | exact Try.underlying3 | exact Try.underlying22 | exact Try.underlying42)); (· exact rfl); (· (first | rfl | (go_simp; done))); (· exact rfl); (· (first | (apply Find.box; (· (repeat (first | exact List.Mem.head _ | apply List.Mem.tail))); rfl) | exact Find.mem (by assumption) | (refine Find.row (by (repeat (first | exact List.Mem.head _ | apply List.Mem.tail))) ?_; assumption))))
    | ((with_reducible apply l_loads hS); (· (first | exact (show ∃ d, Try.prog.underlying 102 = some d ∧ d.isRow = true ∧ (Try.prog.info? 102).map (·.size) = some 2 from ⟨_, Try.underlying102, rfl, by kernel_rfl⟩))); (· exact rfl); (· (first | (apply Finds.box; (· (repeat (first | exact List.Mem.head _ | apply List.Mem.tail))); (· (repeat (first | exact SubL.stop | apply SubL.take | apply SubL.skip))); done) | (refine Finds.mem2 (by assumption) ?_; first | rfl | assumption | (simp; done)) | (apply Finds.row; (· (repeat (first | exact List.Mem.head _ | apply List.Mem.tail))); (· assumption); (· rfl)))))
    | ((with_reducible apply g_loads hS); (· (first | exact (show ∃ d, Try.prog.underlying 102 = some d ∧ d.isRow = true ∧ (Try.prog.info? 102).map (·.size) = some 2 from ⟨_, Try.underlying102, rfl, by kernel_rfl⟩))); (· (first | rfl | (go_simp; done))); (· exact rfl); (· (first | (apply Finds.box; (· (repeat (first | exact List.Mem.head _ | apply List.Mem.tail))); (· (repeat (first | exact SubL.stop | apply SubL.take | apply SubL.skip))); done) | (refine Finds.mem2 (by assumption) ?_; first | rfl | assumption | (simp; done)) | (apply Finds.row; (· (repeat (first | exact List.Mem.head _ | apply List.Mem.tail))); (· assumption); (· rfl)))))
    | ((with_reducible apply l_store hS); (· (first | exact ⟨_, Try.underlying42, rfl, by kernel_rfl⟩)); (· exact rfl); (· (first | (go_simp; done) | (go_simp; with_reducible rfl))); (· (first | rfl | assumption | (simp [Value.oneCell']; done))); (· (repeat (first | exact List.Mem.head _ | apply List.Mem.tail))); (· (repeat (first | exact SetsL.stop | apply SetsL.put | apply SetsL.skip))); (· (repeat (first | exact UpdB.head | apply UpdB.tail))); intro ws hS1; replace hS := hS1; clear hS1)
    | ((with_reducible apply l_storeR hS); (· (first | exact ⟨_, Try.underlying42, rfl, by kernel_rfl⟩)); (· exact rfl); (· (first | (go_simp; done) | (go_simp; with_reducible rfl))); (· (first | rfl | assumption | (simp [Value.oneCell']; done))); (· (repeat (first | exact RowAt.head | apply RowAt.tail))); (· (first | assumption | omega | (simp; omega))); intro ws hS1; replace hS := hS1; clear hS1)
    | ((with_reducible apply l_stores hS); (· (first | exact (show ∃ d, Try.prog.underlying 102 = some d ∧ d.isRow = true ∧ (Try.prog.info? 102).map (·.size) = some 2 from ⟨_, Try.underlying102, rfl, by kernel_rfl⟩))); (· exact rfl); (· exact rfl); (· exact rfl); (· (first | assumption | (simp [Value.oneCell']; done))); (· (repeat (first | exact List.Mem.head _ | apply List.Mem.tail))); (· (repeat (first | exact SetsL.stop | apply SetsL.put | apply SetsL.skip))); (· (repeat (first | exact UpdB.head | apply UpdB.tail))); intro ws hS1; replace hS := hS1; clear hS1))
  go_loopw [11] (fun i wr => ∃ k : Nat, k ≤ d.wet.length ∧ i = .int .i64 k ∧ St X w m wr [.box T [.slice (some ⟨gd, 0, none⟩) d.dry.length cd, .slice pq d.wet.length cq, fv, bv], .row 5 1 (.slice (some ⟨gd, 0, none⟩) d.dry.length cd) d.dry.length ((settleAt many 0 (d.wet.take k) d.dry).map (.int .u8))] m) (fun i _ => d.wet.length - (intOf i).toNat)
  case atStart => exact ⟨0, Nat.zero_le _, rfl, hS⟩
  case round =>
    clear hS
    obtain ⟨k, hk, rfl, hS⟩ := hrel
    by_cases hlt : k < d.wet.length
    · obtain ⟨b, o, cs, rfl, hx, hg⟩ := H4.out.get k hlt
      obtain ⟨v, rfl, hpk, hv⟩ := wrL_open hx
      obtain ⟨z1, z2, z3⟩ := HP.out _ (List.getElem_mem hlt)
      obtain ⟨p, hp⟩ : ∃ p : Nat, d.wet[k].pos = p := ⟨d.wet[k].pos.toNat, by omega⟩
      obtain ⟨q, c, rfl, x1, x2, x3, x4⟩ := Lay.list_open hv
      rw [hp] at hg hpk z2
      rw [z3] at hg hv
      have hg' : ∀ j v, [.int .i64 (p : Int), .slice q 32 c][j]? = some v → m ⟨b, o + k * 2 + j, none⟩ = some v := hg
      have HV := Lib.hid hv
      have HZ := Lib.hid z3
      have HPP := Lib.hid hp
      obtain ⟨gg, eg1, g1, g2⟩ := row_head (hS.row 1 rfl) (by omega)
      have y1 : (p + 1) * 32 ≤ d.dry.length := by simpa using z2
      have HL := Lib.hid (settleAt_length many d.dry.length HMN.out (d.wet.take k) 0 d.dry rfl fun x hx => (HP.out x (List.mem_of_mem_take hx)).2)
      have HB : Hid (settleAt many 0 (d.wet.take (k + 1)) d.dry = splice (settleAt many 0 (d.wet.take k) d.dry) (p * 32) (d.wet[k].b.take (many k))) := by
        show _ = _
        rw [List.take_succ_eq_append_getElem hlt, settleAt_snoc, List.length_take, Nat.min_eq_left hk, Nat.zero_add, show d.wet[k].pos.toNat * 32 = p * 32 by rw [HPP.out]; omega]
      have HM1 := Lib.hid (fun W hW => HM.out k W hW hlt)
      have hN := HMN.out k
      generalize many k = N at HM1 HB hN
      have hN2 : (N : Int) ≤ (c : Int) := by omega
      have x1' : 32 ≤ c := by omega
      simp only [maxLen] at x2
      clear hg hx hv hpk z1 z2 z3 hp x1 x3 x4 eg1
      go_wp2_with (first 
    | ((with_reducible apply l_alloc (ty := 102) (dst := some 5) hS (.agg #[.int .i64 0, .slice none 0 0]) [.int .i64 0, .slice none 0 0]); (· kernel_rfl); (· rfl); intro w5 b5 hS1; replace hS := hS1; clear hS1)
    | ((with_reducible apply l_load hS); (· (first | exact Try.underlying3 | exact Try.underlying22 | exact Try.underlying42)); (· exact rfl); (· exact rfl); (· (first | (apply Find.box; (· (repeat (first | exact List.Mem.head _ | apply List.Mem.tail))); rfl) | exact Find.mem (by assumption) | (refine Find.row (by (repeat (first | exact List.Mem.head _ | apply List.Mem.tail))) ?_; assumption))))
    | ((with_reducible apply g_load hS); (· (first | exact Try.underlying3 | exact Try.underlying22 | exact Try.underlying42)); (· exact rfl); (· (first | rfl | (go_simp; done))); (· exact rfl); (· (first | (apply Find.box; (· (repeat (first | exact List.Mem.head _ | apply List.Mem.tail))); rfl) | exact Find.mem (by assumption) | (refine Find.row (by (repeat (first | exact List.Mem.head _ | apply List.Mem.tail))) ?_; assumption))))
    | ((with_reducible apply l_loads hS); (· (first | exact (show ∃ d, Try.prog.underlying 102 = some d ∧ d.isRow = true ∧ (Try.prog.info? 102).map (·.size) = some 2 from ⟨_, Try.underlying102, rfl, by kernel_rfl⟩))); (· exact rfl); (· (first | (apply Finds.box; (· (repeat (first | exact List.Mem.head _ | apply List.Mem.tail))); (· (repeat (first | exact SubL.stop | apply SubL.take | apply SubL.skip))); done) | (refine Finds.mem2 (by assumption) ?_; first | rfl | assumption | (simp; done)) | (apply Finds.row; (· (repeat (first | exact List.Mem.head _ | apply List.Mem.tail))); (· assumption); (· rfl)))))
    | ((with_reducible apply g_loads hS); (· (first | exact (show ∃ d, Try.prog.underlying 102 = some d ∧ d.isRow = true ∧ (Try.prog.info? 102).map (·.size) = some 2 from ⟨_, Try.underlying102, rfl, by kernel_rfl⟩))); (· (first | rfl | (go_simp; done))); (· exact rfl); (· (first | (apply Finds.box; (· (repeat (first | exact List.Mem.head _ | apply List.Mem.tail))); (· (repeat (first | exact SubL.stop | apply SubL.take | apply SubL.skip))); done) | (refine Finds.mem2 (by assumption) ?_; first | rfl | assumption | (simp; done)) | (apply Finds.row; (· (repeat (first | exact List.Mem.head _ | apply List.Mem.tail))); (· assumption); (· rfl)))))
    | ((with_reducible apply l_store hS); (· (first | exact ⟨_, Try.underlying42, rfl, by kernel_rfl⟩)); (· exact rfl); (· (first | (go_simp; done) | (go_simp; with_reducible rfl))); (· (first | rfl | assumption | (simp [Value.oneCell']; done))); (· (repeat (first | exact List.Mem.head _ | apply List.Mem.tail))); (· (repeat (first | exact SetsL.stop | apply SetsL.put | apply SetsL.skip))); (· (repeat (first | exact UpdB.head | apply UpdB.tail))); intro ws hS1; replace hS := hS1; clear hS1)
    | ((with_reducible apply l_storeR hS); (· (first | exact ⟨_, Try.underlying42, rfl, by kernel_rfl⟩)); (· exact rfl); (· (first | (go_simp; done) | (go_simp; with_reducible rfl))); (· (first | rfl | assumption | (simp [Value.oneCell']; done))); (· (repeat (first | exact RowAt.head | apply RowAt.tail))); (· (first | assumption | omega | (simp; omega))); intro ws hS1; replace hS := hS1; clear hS1)
    | ((with_reducible apply l_stores hS); (· (first | exact (show ∃ d, Try.prog.underlying 102 = some d ∧ d.isRow = true ∧ (Try.prog.info? 102).map (·.size) = some 2 from ⟨_, Try.underlying102, rfl, by kernel_rfl⟩))); (· exact rfl); (· exact rfl); (· exact rfl); (· (first | assumption | (simp [Value.oneCell']; done))); (· (repeat (first | exact List.Mem.head _ | apply List.Mem.tail))); (· (repeat (first | exact SetsL.stop | apply SetsL.put | apply SetsL.skip))); (· (repeat (first | exact UpdB.head | apply UpdB.tail))); intro ws hS1; replace hS := hS1; clear hS1))
      replace hS := hS.drew
      refine startL (S := Sx _ [(T, _), (b5, _)]) (by kernel_rfl) ((hS.sx0.cons hS (by (repeat (first | exact List.Mem.head _ | apply List.Mem.tail)))).cons hS (by (repeat (first | exact List.Mem.head _ | apply List.Mem.tail)))) (fun _ _ _ _ => trivial) (fun hHeld => ?_)
      focus (refine takeL 0 (v := ?_) rfl (by kernel_rfl) (by kernel_rfl) (by kernel_rfl) (fun _ _ _ h => h) (by assumption) (by first | rfl | (go_simp <;> fail)) ?_ ?_; rotate_left; focus (intro w hSw; clear hSw; go_simp; try with_reducible rfl))
      try simp only [Act.put, List.setIfInBounds_toArray, List.set_cons_zero, List.set_cons_succ]
      focus (refine takeL 1 (v := ?_) rfl (by kernel_rfl) (by kernel_rfl) (by kernel_rfl) (fun _ _ _ h => h) (by assumption) (by first | rfl | (go_simp <;> fail)) ?_ ?_; rotate_left; focus (intro w hSw; clear hSw; go_simp; try with_reducible rfl))
      try simp only [Act.put, List.setIfInBounds_toArray, List.set_cons_zero, List.set_cons_succ]
      focus (refine takeL 2 (v := ?_) rfl (by kernel_rfl) (by kernel_rfl) (by kernel_rfl) (fun _ _ _ h => h) (by assumption) (by first | rfl | (go_simp <;> fail)) ?_ ?_; rotate_left; focus (intro w hSw; clear hSw; go_simp; try with_reducible rfl))
      try simp only [Act.put, List.setIfInBounds_toArray, List.set_cons_zero, List.set_cons_succ]
      refine takeL 3 rfl (by kernel_rfl) (by kernel_rfl) (by kernel_rfl) (fun _ _ _ h => h) (by assumption) (by first | rfl | (go_simp <;> fail)) (yield_load rfl Try.underlying22 rfl rfl (by (first | (apply FindX.box; (· (repeat (first | exact List.Mem.head _ | apply List.Mem.tail))); rfl) | exact FindX.mem (by assumption)))) ?_
      try simp only [Act.put, List.setIfInBounds_toArray, List.set_cons_zero, List.set_cons_succ]
      focus (refine takeL 4 (v := ?_) rfl (by kernel_rfl) (by kernel_rfl) (by kernel_rfl) (fun _ _ _ h => h) (by assumption) (by first | rfl | (go_simp <;> fail)) ?_ ?_; rotate_left; focus (intro w hSw; clear hSw; go_simp; try with_reducible rfl))
      try simp only [Act.put, List.setIfInBounds_toArray, List.set_cons_zero, List.set_cons_succ]
      refine takeL 5 rfl (by kernel_rfl) (by kernel_rfl) (by kernel_rfl) (fun _ _ _ h => h) (by assumption) (by first | rfl | (go_simp <;> fail)) (yield_load rfl Try.underlying3 rfl rfl (by (first | (apply FindX.box; (· (repeat (first | exact List.Mem.head _ | apply List.Mem.tail))); rfl) | exact FindX.mem (by assumption)))) ?_
      try simp only [Act.put, List.setIfInBounds_toArray, List.set_cons_zero, List.set_cons_succ]
      focus (refine takeL 7 (v := ?_) rfl (by kernel_rfl) (by kernel_rfl) (by kernel_rfl) (fun _ _ _ h => h) (by assumption) (by first | rfl | (go_simp <;> fail)) ?_ ?_; rotate_left; focus (intro w hSw; clear hSw; go_simp; try with_reducible rfl))
      try simp only [Act.put, List.setIfInBounds_toArray, List.set_cons_zero, List.set_cons_succ]
      refine takeL 8 rfl (by kernel_rfl) (by kernel_rfl) (by kernel_rfl) (fun _ _ _ h => h) (by assumption) (by first | rfl | (go_simp <;> fail)) (yield_load rfl Try.underlying22 rfl rfl (by (first | (apply FindX.box; (· (repeat (first | exact List.Mem.head _ | apply List.Mem.tail))); rfl) | exact FindX.mem (by assumption)))) ?_
      try simp only [Act.put, List.setIfInBounds_toArray, List.set_cons_zero, List.set_cons_succ]
      focus (refine takeL 9 (v := ?_) rfl (by kernel_rfl) (by kernel_rfl) (by kernel_rfl) (fun _ _ _ h => h) (by assumption) (by first | rfl | (go_simp <;> fail)) ?_ ?_; rotate_left; focus (intro w hSw; clear hSw; go_simp; try with_reducible rfl))
      try simp only [Act.put, List.setIfInBounds_toArray, List.set_cons_zero, List.set_cons_succ]
      focus (refine takeL 10 (v := ?_) rfl (by kernel_rfl) (by kernel_rfl) (by kernel_rfl) (fun _ _ _ h => h) (by assumption) (by first | rfl | (go_simp <;> fail)) ?_ ?_; rotate_left; focus (intro w hSw; clear hSw; go_simp; try with_reducible rfl))
      try simp only [Act.put, List.setIfInBounds_toArray, List.set_cons_zero, List.set_cons_succ]
      refine wpAnyH_ready (rs := [6]) (by kernel_rfl) (by simp) ?_
      refine consL 6 rfl (fun K hK => ?_) AllReadyH.nil
      rw [if_pos (by rfl)]; go_simp; refine (cut_any gd 0 d.dry.length cd p _ y1 g1 g2).mono ?_; rintro e' w22 ⟨rfl, rfl⟩; rw [Nat.zero_add]; go_wp2_with fail
      refine hK.out _ _ (by first | exact ((hS.sx0.cons hS (by (repeat (first | exact List.Mem.head _ | apply List.Mem.tail)))).cons hS (by (repeat (first | exact List.Mem.head _ | apply List.Mem.tail)))) | exact Sx.le (by assumption) ((hS.sx0.cons hS (by (repeat (first | exact List.Mem.head _ | apply List.Mem.tail)))).cons hS (by (repeat (first | exact List.Mem.head _ | apply List.Mem.tail))))) (fun hHeld => ?_)
      clear hK K
      try simp only [Act.put, List.setIfInBounds_toArray, List.set_cons_zero, List.set_cons_succ]
      refine wpAnyH_ready (rs := [11]) (by kernel_rfl) (by simp) ?_
      refine consL 11 rfl (fun K hK => ?_) AllReadyH.nil
      rw [if_pos (by rfl)]; go_simp; refine (HM1.out _ hS.kept).mono ?_; rintro e' w27 ⟨rfl, rfl⟩; go_wp2_with fail
      refine hK.out _ _ (by first | exact ((hS.sx0.cons hS (by (repeat (first | exact List.Mem.head _ | apply List.Mem.tail)))).cons hS (by (repeat (first | exact List.Mem.head _ | apply List.Mem.tail)))) | exact Sx.le (by assumption) ((hS.sx0.cons hS (by (repeat (first | exact List.Mem.head _ | apply List.Mem.tail)))).cons hS (by (repeat (first | exact List.Mem.head _ | apply List.Mem.tail))))) (fun hHeld => ?_)
      clear hK K
      try simp only [Act.put, List.setIfInBounds_toArray, List.set_cons_zero, List.set_cons_succ]
      focus (refine takeL 12 (v := ?_) rfl (by kernel_rfl) (by kernel_rfl) (by kernel_rfl) (fun _ _ _ h => h) (by assumption) (by first | rfl | (go_simp <;> fail)) ?_ ?_; rotate_left; focus (intro w hSw; clear hSw; go_simp; try with_reducible rfl))
      try simp only [Act.put, List.setIfInBounds_toArray, List.set_cons_zero, List.set_cons_succ]
      refine wpAnyH_ready (rs := [13]) (by kernel_rfl) (by simp) ?_
      refine consL 13 rfl (fun K hK => ?_) AllReadyH.nil
      (with_reducible apply s_copyR hS Try.underlying22 (by kernel_rfl)); (· exact rfl); (· (repeat (first | exact RowAt.head | apply RowAt.tail))); (· exact HL.out); (· exact rfl); (· exact rdL_take HV.out _ (by omega)); (· rw [List.length_take]; omega); (· omega); intro w29 hS1; replace hS := hS1; clear hS1
      refine hK.out _ _ (by first | exact ((hS.sx0.cons hS (by (repeat (first | exact List.Mem.head _ | apply List.Mem.tail)))).cons hS (by (repeat (first | exact List.Mem.head _ | apply List.Mem.tail)))) | exact Sx.le (by assumption) ((hS.sx0.cons hS (by (repeat (first | exact List.Mem.head _ | apply List.Mem.tail)))).cons hS (by (repeat (first | exact List.Mem.head _ | apply List.Mem.tail))))) (fun hHeld => ?_)
      clear hK K
      try simp only [Act.put, List.setIfInBounds_toArray, List.set_cons_zero, List.set_cons_succ]
      refine wpAnyH_done (by kernel_rfl) ?_ _
      refine NoPanic.normal ?_
      all_goals
        go_wp2_with (first 
    | ((with_reducible apply l_alloc (ty := 102) (dst := some 5) hS (.agg #[.int .i64 0, .slice none 0 0]) [.int .i64 0, .slice none 0 0]); (· kernel_rfl); (· rfl); intro w5 b5 hS1; replace hS := hS1; clear hS1)
    | ((with_reducible apply l_load hS); (· (first | exact Try.underlying3 | exact Try.underlying22 | exact Try.underlying42)); (· exact rfl); (· exact rfl); (· (first | (apply Find.box; (· (repeat (first | exact List.Mem.head _ | apply List.Mem.tail))); rfl) | exact Find.mem (by assumption) | (refine Find.row (by (repeat (first | exact List.Mem.head _ | apply List.Mem.tail))) ?_; assumption))))
    | ((with_reducible apply g_load hS); (· (first | exact Try.underlying3 | exact Try.underlying22 | exact Try.underlying42)); (· exact rfl); (· (first | rfl | (go_simp; done))); (· exact rfl); (· (first | (apply Find.box; (· (repeat (first | exact List.Mem.head _ | apply List.Mem.tail))); rfl) | exact Find.mem (by assumption) | (refine Find.row (by (repeat (first | exact List.Mem.head _ | apply List.Mem.tail))) ?_; assumption))))
    | ((with_reducible apply l_loads hS); (· (first | exact (show ∃ d, Try.prog.underlying 102 = some d ∧ d.isRow = true ∧ (Try.prog.info? 102).map (·.size) = some 2 from ⟨_, Try.underlying102, rfl, by kernel_rfl⟩))); (· exact rfl); (· (first | (apply Finds.box; (· (repeat (first | exact List.Mem.head _ | apply List.Mem.tail))); (· (repeat (first | exact SubL.stop | apply SubL.take | apply SubL.skip))); done) | (refine Finds.mem2 (by assumption) ?_; first | rfl | assumption | (simp; done)) | (apply Finds.row; (· (repeat (first | exact List.Mem.head _ | apply List.Mem.tail))); (· assumption); (· rfl)))))
    | ((with_reducible apply g_loads hS); (· (first | exact (show ∃ d, Try.prog.underlying 102 = some d ∧ d.isRow = true ∧ (Try.prog.info? 102).map (·.size) = some 2 from ⟨_, Try.underlying102, rfl, by kernel_rfl⟩))); (· (first | rfl | (go_simp; done))); (· exact rfl); (· (first | (apply Finds.box; (· (repeat (first | exact List.Mem.head _ | apply List.Mem.tail))); (· (repeat (first | exact SubL.stop | apply SubL.take | apply SubL.skip))); done) | (refine Finds.mem2 (by assumption) ?_; first | rfl | assumption | (simp; done)) | (apply Finds.row; (· (repeat (first | exact List.Mem.head _ | apply List.Mem.tail))); (· assumption); (· rfl)))))
    | ((with_reducible apply l_store hS); (· (first | exact ⟨_, Try.underlying42, rfl, by kernel_rfl⟩)); (· exact rfl); (· (first | (go_simp; done) | (go_simp; with_reducible rfl))); (· (first | rfl | assumption | (simp [Value.oneCell']; done))); (· (repeat (first | exact List.Mem.head _ | apply List.Mem.tail))); (· (repeat (first | exact SetsL.stop | apply SetsL.put | apply SetsL.skip))); (· (repeat (first | exact UpdB.head | apply UpdB.tail))); intro ws hS1; replace hS := hS1; clear hS1)
    | ((with_reducible apply l_storeR hS); (· (first | exact ⟨_, Try.underlying42, rfl, by kernel_rfl⟩)); (· exact rfl); (· (first | (go_simp; done) | (go_simp; with_reducible rfl))); (· (first | rfl | assumption | (simp [Value.oneCell']; done))); (· (repeat (first | exact RowAt.head | apply RowAt.tail))); (· (first | assumption | omega | (simp; omega))); intro ws hS1; replace hS := hS1; clear hS1)
    | ((with_reducible apply l_stores hS); (· (first | exact (show ∃ d, Try.prog.underlying 102 = some d ∧ d.isRow = true ∧ (Try.prog.info? 102).map (·.size) = some 2 from ⟨_, Try.underlying102, rfl, by kernel_rfl⟩))); (· exact rfl); (· exact rfl); (· exact rfl); (· (first | assumption | (simp [Value.oneCell']; done))); (· (repeat (first | exact List.Mem.head _ | apply List.Mem.tail))); (· (repeat (first | exact SetsL.stop | apply SetsL.put | apply SetsL.skip))); (· (repeat (first | exact UpdB.head | apply UpdB.tail))); intro ws hS1; replace hS := hS1; clear hS1))
        go_roundw
        case rel => exact ⟨k + 1, hlt, by go_num, by rw [HB.out]; exact (hS.forget (x := .box b5 _) (by (repeat (first | exact Out.head | apply Out.tail))))⟩
        case measure => simp [intOf]; omega
    · obtain rfl : k = d.wet.length := by omega
      rw [List.take_length] at hS
      go_wp2_with (first 
    | ((with_reducible apply l_alloc (ty := 102) (dst := some 5) hS (.agg #[.int .i64 0, .slice none 0 0]) [.int .i64 0, .slice none 0 0]); (· kernel_rfl); (· rfl); intro w5 b5 hS1; replace hS := hS1; clear hS1)
    | ((with_reducible apply l_load hS); (· (first | exact Try.underlying3 | exact Try.underlying22 | exact Try.underlying42)); (· exact rfl); (· exact rfl); (· (first | (apply Find.box; (· (repeat (first | exact List.Mem.head _ | apply List.Mem.tail))); rfl) | exact Find.mem (by assumption) | (refine Find.row (by (repeat (first | exact List.Mem.head _ | apply List.Mem.tail))) ?_; assumption))))
    | ((with_reducible apply g_load hS); (· (first | exact Try.underlying3 | exact Try.underlying22 | exact Try.underlying42)); (· exact rfl); (· (first | rfl | (go_simp; done))); (· exact rfl); (· (first | (apply Find.box; (· (repeat (first | exact List.Mem.head _ | apply List.Mem.tail))); rfl) | exact Find.mem (by assumption) | (refine Find.row (by (repeat (first | exact List.Mem.head _ | apply List.Mem.tail))) ?_; assumption))))
    | ((with_reducible apply l_loads hS); (· (first | exact (show ∃ d, Try.prog.underlying 102 = some d ∧ d.isRow = true ∧ (Try.prog.info? 102).map (·.size) = some 2 from ⟨_, Try.underlying102, rfl, by kernel_rfl⟩))); (· exact rfl); (· (first | (apply Finds.box; (· (repeat (first | exact List.Mem.head _ | apply List.Mem.tail))); (· (repeat (first | exact SubL.stop | apply SubL.take | apply SubL.skip))); done) | (refine Finds.mem2 (by assumption) ?_; first | rfl | assumption | (simp; done)) | (apply Finds.row; (· (repeat (first | exact List.Mem.head _ | apply List.Mem.tail))); (· assumption); (· rfl)))))
    | ((with_reducible apply g_loads hS); (· (first | exact (show ∃ d, Try.prog.underlying 102 = some d ∧ d.isRow = true ∧ (Try.prog.info? 102).map (·.size) = some 2 from ⟨_, Try.underlying102, rfl, by kernel_rfl⟩))); (· (first | rfl | (go_simp; done))); (· exact rfl); (· (first | (apply Finds.box; (· (repeat (first | exact List.Mem.head _ | apply List.Mem.tail))); (· (repeat (first | exact SubL.stop | apply SubL.take | apply SubL.skip))); done) | (refine Finds.mem2 (by assumption) ?_; first | rfl | assumption | (simp; done)) | (apply Finds.row; (· (repeat (first | exact List.Mem.head _ | apply List.Mem.tail))); (· assumption); (· rfl)))))
    | ((with_reducible apply l_store hS); (· (first | exact ⟨_, Try.underlying42, rfl, by kernel_rfl⟩)); (· exact rfl); (· (first | (go_simp; done) | (go_simp; with_reducible rfl))); (· (first | rfl | assumption | (simp [Value.oneCell']; done))); (· (repeat (first | exact List.Mem.head _ | apply List.Mem.tail))); (· (repeat (first | exact SetsL.stop | apply SetsL.put | apply SetsL.skip))); (· (repeat (first | exact UpdB.head | apply UpdB.tail))); intro ws hS1; replace hS := hS1; clear hS1)
    | ((with_reducible apply l_storeR hS); (· (first | exact ⟨_, Try.underlying42, rfl, by kernel_rfl⟩)); (· exact rfl); (· (first | (go_simp; done) | (go_simp; with_reducible rfl))); (· (first | rfl | assumption | (simp [Value.oneCell']; done))); (· (repeat (first | exact RowAt.head | apply RowAt.tail))); (· (first | assumption | omega | (simp; omega))); intro ws hS1; replace hS := hS1; clear hS1)
    | ((with_reducible apply l_stores hS); (· (first | exact (show ∃ d, Try.prog.underlying 102 = some d ∧ d.isRow = true ∧ (Try.prog.info? 102).map (·.size) = some 2 from ⟨_, Try.underlying102, rfl, by kernel_rfl⟩))); (· exact rfl); (· exact rfl); (· exact rfl); (· (first | assumption | (simp [Value.oneCell']; done))); (· (repeat (first | exact List.Mem.head _ | apply List.Mem.tail))); (· (repeat (first | exact SetsL.stop | apply SetsL.put | apply SetsL.skip))); (· (repeat (first | exact UpdB.head | apply UpdB.tail))); intro ws hS1; replace hS := hS1; clear hS1))
      go_end0
      exact ⟨rfl, hS⟩
end Go.Proofs.Ytnmgiiaejpaeeaa
/- Contracts of package disk over the state of a walk: Check, alive, far, Crash, Lit, New. -/
namespace Go.Proofs.Ytnmgiiaejpaeeaa
set_option linter.unusedVariables false
set_option linter.unusedSimpArgs false
open Go.RowKit Go.Shelf
theorem ret_of_below {P : Program} {f : FuncId} {args : Array Value} {w : World} {m : Mem} {v : Value} (hm : m.In w) (h : Calls P f args w fun e w' => e = .returned v ∧ Below w.heap.size w w') : Calls P f args w (Ret w m fun v' _ => v' = v) :=
  h.mono fun e w' ⟨he, hb⟩ => ⟨v, m, he, rfl, (St.start hm).grow (grownBy_of_below hb)⟩
theorem row_rdW {m : Mem} {w : World} {p : Option Addr} {ws : List Wr} (h : Row wrL m p ws) (hm : m.In w) : RdW w p ws := fun h0 => by
  obtain ⟨b, o, e, hc⟩ := h h0
  refine ⟨b, o, e, fun i x hx => ?_⟩
  obtain ⟨cs, h1, h2⟩ := hc i x hx
  obtain ⟨v, rfl, _, hv⟩ := wrL_open h1
  obtain ⟨q, c, rfl, k1, k2, _, k4⟩ := Lay.list_open hv
  exact ⟨hm _ _ (h2 0 _ rfl), q, c, hm _ _ (h2 1 _ rfl), k1, k2, k4.rdInt hm⟩
theorem dkL_at {m : Mem} {w : World} {cs : List Value} {d : Dk} (h : dkL.rd m cs d) (hm : m.In w) : ∃ p c q e, Value.agg cs.toArray = dkV p c q e d ∧ DkAt w p c q e d := by
  obtain ⟨v0, v1, rfl, h0, h1, _⟩ := dkL_open h
  obtain ⟨p0, c0, rfl, a1, a2, _, a4⟩ := Lay.list_open h0
  obtain ⟨p1, c1, rfl, b1, b2, b3, b4⟩ := Lay.list_open h1
  exact ⟨p0, c0, p1, c1, rfl, a1, a2, b1, b2, a4.rdInt hm, row_rdW b4 hm⟩
theorem check_c (m : Mem) (w : World) (hm : m.In w) (cs : List Value) (d : Dk) (h : dkL.rd m cs d) :
    Calls Try.prog 40 #[.agg cs.toArray] w (Ret w m fun v _ => v = .int .i64 (checkE d)) := by
  obtain ⟨p, c, q, e, he, hd⟩ := dkL_at h hm
  rw [he]
  exact ret_of_below hm (check_any p c q e d w hd)
theorem alive_c (m : Mem) (w : World) (hm : m.In w) (cs : List Value) (d : Dk) (h : dkL.rd m cs d) :
    Calls Try.prog 69 #[.agg cs.toArray] w (Ret w m fun v _ => v = .int .i64 (aliveE d)) := by
  obtain ⟨p, c, q, e, he, hd⟩ := dkL_at h hm
  rw [he]
  exact ret_of_below hm (alive_any p c q e d w hd)
theorem far_c (m : Mem) (w : World) (hm : m.In w) (cs : List Value) (d : Dk) (h : dkL.rd m cs d) (k : Int) :
    Calls Try.prog 70 #[.agg cs.toArray, .int .i64 k] w (Ret w m fun v _ => v = .bool (farD d k)) := by
  obtain ⟨p, c, q, e, he, hd⟩ := dkL_at h hm
  rw [he]
  exact ret_of_below hm (far_any p c q e d k w hd)
set_option maxRecDepth 100000 in
set_option maxHeartbeats 4000000 in
theorem crash_c (m : Mem) (w : World) (hm : m.In w) (cs : List Value) (d : Dk) (h : dkL.rd m cs d) (vk : Value) (keep : List Int) (hkp : bytesL.rd m [vk] keep) :
    Calls Try.prog 38 #[.agg cs.toArray, vk] w (RetDE w m (crashD d keep) (checkE d)) := by
  have HH := Lib.hid h
  obtain ⟨v0, v1, rfl, h0, h1, _⟩ := dkL_open h
  obtain ⟨p0, c0, rfl, a1, a2, _, a4⟩ := Lay.list_open h0
  obtain ⟨p1, c1, rfl, b1, b2, b3, b4⟩ := Lay.list_open h1
  obtain ⟨pk, ck, rfl, e1, e2, e3, e4⟩ := Lay.list_open hkp
  have hS := St.start hm
  have HR := Lib.hid a4.inK
  have HO := Lib.hid (row_octets b4)
  have HE4 := Lib.hid e4
  have HKB := Lib.hid (⟨e1, e2, inK_isB e4.inK⟩ : keep.length ≤ ck ∧ ck ≤ maxLen ∧ IsB keep)
  clear h h0 h1 b3 a1 a2 a4 b1 b2 b4 hkp e1 e2 e3 e4
  have ec := enters_of Try.func78 (by kernel_rfl) rfl
  rcases checkE_cases d with ⟨hE, hok⟩ | ⟨hE, hok⟩
  all_goals
    have HE := Lib.hid hE
    have HK := Lib.hid hok
    clear hE hok
    go_enter Try.func38, Try.ntmps38
    go_wp2_with (first 
    | ((with_reducible apply l_box (ty := 44) (y := (.tmp 0)) hS); (· (first | (go_simp; done) | (go_simp; with_reducible rfl))); (· exact rfl); intro w2 b2 hS1; replace hS := hS1; clear hS1)
    | ((with_reducible apply l_box (ty := 22) (y := (.tmp 1)) hS); (· (first | (go_simp; done) | (go_simp; with_reducible rfl))); (· exact rfl); intro w3 b3 hS1; replace hS := hS1; clear hS1)
    | ((with_reducible apply l_alloc (ty := 44) (dst := some 4) hS (.agg #[.slice none 0 0, .slice none 0 0, .int .i64 0, .bool false]) [.slice none 0 0, .slice none 0 0, .int .i64 0, .bool false]); (· kernel_rfl); (· rfl); intro w4 b4 hS1; replace hS := hS1; clear hS1)
    | ((with_reducible apply l_loads hS); (· (first | exact (show ∃ d, Try.prog.underlying 44 = some d ∧ d.isRow = true ∧ (Try.prog.info? 44).map (·.size) = some 4 from ⟨_, Try.underlying44, rfl, by kernel_rfl⟩))); (· exact rfl); (· (first | (apply Finds.box; (· (repeat (first | exact List.Mem.head _ | apply List.Mem.tail))); (· (repeat (first | exact SubL.stop | apply SubL.take | apply SubL.skip))); done) | (refine Finds.mem2 (by assumption) ?_; first | rfl | assumption | (simp; done)) | (apply Finds.row; (· (repeat (first | exact List.Mem.head _ | apply List.Mem.tail))); (· assumption); (· rfl)))))
    | ((with_reducible apply g_loads hS); (· (first | exact (show ∃ d, Try.prog.underlying 44 = some d ∧ d.isRow = true ∧ (Try.prog.info? 44).map (·.size) = some 4 from ⟨_, Try.underlying44, rfl, by kernel_rfl⟩))); (· (first | rfl | (go_simp; done))); (· exact rfl); (· (first | (apply Finds.box; (· (repeat (first | exact List.Mem.head _ | apply List.Mem.tail))); (· (repeat (first | exact SubL.stop | apply SubL.take | apply SubL.skip))); done) | (refine Finds.mem2 (by assumption) ?_; first | rfl | assumption | (simp; done)) | (apply Finds.row; (· (repeat (first | exact List.Mem.head _ | apply List.Mem.tail))); (· assumption); (· rfl)))))
    | ((with_reducible apply l_store hS); (· (first | exact ⟨_, Try.underlying3, rfl, by kernel_rfl⟩ | exact ⟨_, Try.underlying4, rfl, by kernel_rfl⟩)); (· exact rfl); (· (first | (go_simp; done) | (go_simp; with_reducible rfl))); (· (first | rfl | assumption | (simp [Value.oneCell']; done))); (· (repeat (first | exact List.Mem.head _ | apply List.Mem.tail))); (· (repeat (first | exact SetsL.stop | apply SetsL.put | apply SetsL.skip))); (· (repeat (first | exact UpdB.head | apply UpdB.tail))); intro ws hS1; replace hS := hS1; clear hS1)
    | ((with_reducible apply l_storeR hS); (· (first | exact ⟨_, Try.underlying3, rfl, by kernel_rfl⟩ | exact ⟨_, Try.underlying4, rfl, by kernel_rfl⟩)); (· exact rfl); (· (first | (go_simp; done) | (go_simp; with_reducible rfl))); (· (first | rfl | assumption | (simp [Value.oneCell']; done))); (· (repeat (first | exact RowAt.head | apply RowAt.tail))); (· (first | assumption | omega | (simp; omega))); intro ws hS1; replace hS := hS1; clear hS1)
    | ((with_reducible apply l_stores hS); (· (first | exact (show ∃ d, Try.prog.underlying 44 = some d ∧ d.isRow = true ∧ (Try.prog.info? 44).map (·.size) = some 4 from ⟨_, Try.underlying44, rfl, by kernel_rfl⟩))); (· exact rfl); (· exact rfl); (· exact rfl); (· (first | assumption | (simp [Value.oneCell']; done))); (· (repeat (first | exact List.Mem.head _ | apply List.Mem.tail))); (· (repeat (first | exact SetsL.stop | apply SetsL.put | apply SetsL.skip))); (· (repeat (first | exact UpdB.head | apply UpdB.tail))); intro ws hS1; replace hS := hS1; clear hS1)
      | (go_at_call 40; refine (check_c _ _ hS.inw _ _ HH.out).mono ?_; rintro e' w11 ⟨v11, m5, rfl, rfl, hk⟩; rw [HE.out]; replace hS := hS.call hk; have hle := hk.le; clear hk)
      | (go_at_call 77; refine (own_c _ _ hS.inw _ _ (dkL.mono hle HH.out)).mono ?_; rintro e' w15 ⟨vd, vq, cells, m6, rfl, hc, hk⟩; replace hS := hS.callOwn hk; have hle6 := hk.le; simp only [List.cons_append, List.nil_append] at hS; obtain ⟨qd, cd, rfl⟩ := row_form (hS.row 0 rfl); obtain ⟨m7, hS7, hle7, hq7⟩ := hS.settleRow (L := wrL) 1 rfl hc (ok_big HK.out).2; replace hS := hS7; simp only [List.eraseIdx_cons_succ, List.eraseIdx_cons_zero] at hS; obtain ⟨qq, cq, rfl, _⟩ := Lay.list_open hq7; have HQ7 := Lib.hid hq7; obtain ⟨gd, rfl, _⟩ := row_head (hS.row 0 rfl) (by have := HK.out.1; omega); clear hc hk hS7 hq7))
  · replace hS := (hS.front (x := .row 5 1 _ _ _) (by (repeat (first | exact Out.head | apply Out.tail)))).front (x := .box b2 _) (by (repeat (first | exact Out.head | apply Out.tail)))
    have hsub := St.sub (ls := [_, _]) hS
    have hrest := fun W => St.keptRest (ls := [_, _]) (W := W) hS
    generalize hX : List.filterMap Ent.blk _ = X at hsub hrest
    have hcl : ∀ (k : Nat) (W : World), Kept X ws W → k < d.wet.length → Calls Try.prog 78 (#[.int .i64 k] ++ #[.pointer (some ⟨b3, 0, none⟩)]) W fun e' W' => e' = .returned (.int .i64 (keepN keep k)) ∧ W = W' := fun k W hW hk => by
      obtain ⟨r1, r2⟩ := hrest W hW
      exact crash1_any b3 pk ck keep k W (r1 (.box b3 _) (by (repeat (first | exact List.Mem.head _ | apply List.Mem.tail)))) ((HE4.out.mono (hle.trans (hle6.trans hle7))).rdInt r2) HKB.out.2.2 HKB.out.1 HKB.out.2.1 (by have := HK.out.2.2.2.1; omega)
    refine (settle_c X _ _ _ _ _ _ _ _ d hsub HQ7.out (placed_of_ok HK.out) HK.out.2.1 HK.out.2.2.2.1 78 _ ec (keepN keep) (keepN_le keep) hcl).mono ?_
    subst hX
    rintro e' w16 ⟨rfl, hk⟩
    replace hS := St.lendL (ls := [_, _]) hS hk
    simp only [List.cons_append, List.nil_append] at hS
    clear hk
    go_wp2_with (first 
    | ((with_reducible apply l_box (ty := 44) (y := (.tmp 0)) hS); (· (first | (go_simp; done) | (go_simp; with_reducible rfl))); (· exact rfl); intro w2 b2 hS1; replace hS := hS1; clear hS1)
    | ((with_reducible apply l_box (ty := 22) (y := (.tmp 1)) hS); (· (first | (go_simp; done) | (go_simp; with_reducible rfl))); (· exact rfl); intro w3 b3 hS1; replace hS := hS1; clear hS1)
    | ((with_reducible apply l_alloc (ty := 44) (dst := some 4) hS (.agg #[.slice none 0 0, .slice none 0 0, .int .i64 0, .bool false]) [.slice none 0 0, .slice none 0 0, .int .i64 0, .bool false]); (· kernel_rfl); (· rfl); intro w4 b4 hS1; replace hS := hS1; clear hS1)
    | ((with_reducible apply l_loads hS); (· (first | exact (show ∃ d, Try.prog.underlying 44 = some d ∧ d.isRow = true ∧ (Try.prog.info? 44).map (·.size) = some 4 from ⟨_, Try.underlying44, rfl, by kernel_rfl⟩))); (· exact rfl); (· (first | (apply Finds.box; (· (repeat (first | exact List.Mem.head _ | apply List.Mem.tail))); (· (repeat (first | exact SubL.stop | apply SubL.take | apply SubL.skip))); done) | (refine Finds.mem2 (by assumption) ?_; first | rfl | assumption | (simp; done)) | (apply Finds.row; (· (repeat (first | exact List.Mem.head _ | apply List.Mem.tail))); (· assumption); (· rfl)))))
    | ((with_reducible apply g_loads hS); (· (first | exact (show ∃ d, Try.prog.underlying 44 = some d ∧ d.isRow = true ∧ (Try.prog.info? 44).map (·.size) = some 4 from ⟨_, Try.underlying44, rfl, by kernel_rfl⟩))); (· (first | rfl | (go_simp; done))); (· exact rfl); (· (first | (apply Finds.box; (· (repeat (first | exact List.Mem.head _ | apply List.Mem.tail))); (· (repeat (first | exact SubL.stop | apply SubL.take | apply SubL.skip))); done) | (refine Finds.mem2 (by assumption) ?_; first | rfl | assumption | (simp; done)) | (apply Finds.row; (· (repeat (first | exact List.Mem.head _ | apply List.Mem.tail))); (· assumption); (· rfl)))))
    | ((with_reducible apply l_store hS); (· (first | exact ⟨_, Try.underlying3, rfl, by kernel_rfl⟩ | exact ⟨_, Try.underlying4, rfl, by kernel_rfl⟩)); (· exact rfl); (· (first | (go_simp; done) | (go_simp; with_reducible rfl))); (· (first | rfl | assumption | (simp [Value.oneCell']; done))); (· (repeat (first | exact List.Mem.head _ | apply List.Mem.tail))); (· (repeat (first | exact SetsL.stop | apply SetsL.put | apply SetsL.skip))); (· (repeat (first | exact UpdB.head | apply UpdB.tail))); intro ws hS1; replace hS := hS1; clear hS1)
    | ((with_reducible apply l_storeR hS); (· (first | exact ⟨_, Try.underlying3, rfl, by kernel_rfl⟩ | exact ⟨_, Try.underlying4, rfl, by kernel_rfl⟩)); (· exact rfl); (· (first | (go_simp; done) | (go_simp; with_reducible rfl))); (· (first | rfl | assumption | (simp [Value.oneCell']; done))); (· (repeat (first | exact RowAt.head | apply RowAt.tail))); (· (first | assumption | omega | (simp; omega))); intro ws hS1; replace hS := hS1; clear hS1)
    | ((with_reducible apply l_stores hS); (· (first | exact (show ∃ d, Try.prog.underlying 44 = some d ∧ d.isRow = true ∧ (Try.prog.info? 44).map (·.size) = some 4 from ⟨_, Try.underlying44, rfl, by kernel_rfl⟩))); (· exact rfl); (· exact rfl); (· exact rfl); (· (first | assumption | (simp [Value.oneCell']; done))); (· (repeat (first | exact List.Mem.head _ | apply List.Mem.tail))); (· (repeat (first | exact SetsL.stop | apply SetsL.put | apply SetsL.skip))); (· (repeat (first | exact UpdB.head | apply UpdB.tail))); intro ws hS1; replace hS := hS1; clear hS1))
    refine ret_cell_tmp (n := 4) rfl rfl hS (by (repeat (first | exact List.Mem.head _ | apply List.Mem.tail))) (by rfl) dkRow rfl ?_
    have hl : (settleAt (keepN keep) 0 d.wet d.dry).length = d.dry.length := settleAt_length (keepN keep) d.dry.length (keepN_le keep) d.wet 0 d.dry rfl fun x hx => (placed_of_ok HK.out x hx).2
    have e1 : crashD d keep = ⟨settleAt (keepN keep) 0 d.wet d.dry, [], -1, false⟩ := if_pos HK.out
    rw [e1]
    exact close_half HE.out rfl rfl (inK64 (by omega) (by omega)) (by simp only [hl]; exact hS.front (x := .row 5 1 _ _ _) (by (repeat (first | exact Out.head | apply Out.tail)))) (settle_inK _ _ _ _ HR.out HO.out) (Lay.nil_rd _ _) (by have := HK.out.2.1; show (settleAt (keepN keep) 0 d.wet d.dry).length ≤ _; omega)
  · refine ret_cell_tmp (n := 4) rfl rfl hS (by (repeat (first | exact List.Mem.head _ | apply List.Mem.tail))) (by rfl) dkRow rfl ?_
    exact close_err HE.out (if_neg HK.out) hS
end Go.Proofs.Ytnmgiiaejpaeeaa
/- Contracts of package disk over the state of a walk: deed, Flush, Write, Lit, New. -/
namespace Go.Proofs.Ytnmgiiaejpaeeaa
set_option linter.unusedVariables false
set_option linter.unusedSimpArgs false
open Go.RowKit Go.Shelf
/-- What a deed does to a disk of its own that it is lent. -/
def Does (w : World) (m : Mem) (gf : Nat) (lb : Array Value) (d : Dk) (act : Dk → Dk) : Prop :=
  ∀ (X : List Nat) (W : World) (mW : Mem) (T : Nat) (qd qq : Option Addr) (cd cq : Nat) (cells : List Value) (f : Int), (∀ b, b ∈ X → w.heap.size ≤ b) → Below w.heap.size w W → m.Le mW → CellsOf wrL mW cells d.wet →
    St X W mW W [.box T [.slice qd d.dry.length cd, .slice qq d.wet.length cq, .int .i64 f, .bool d.dead], .row 5 1 (.slice qd d.dry.length cd) d.dry.length (d.dry.map (.int .u8)), .row 102 2 (.slice qq d.wet.length cq) d.wet.length cells] mW →
    Calls Try.prog gf (#[.pointer (some ⟨T, 0, none⟩)] ++ lb) W fun e W' => e = .returned (.tuple #[]) ∧ ∃ vq m', wrL.list.rd m' [vq] (act d).wet ∧ (act d).dry.length = d.dry.length ∧
      St X W mW W' [.box T [.slice qd d.dry.length cd, vq, .int .i64 f, .bool d.dead], .row 5 1 (.slice qd d.dry.length cd) d.dry.length ((act d).dry.map (.int .u8))] m'
set_option maxRecDepth 100000 in
set_option maxHeartbeats 4000000 in
theorem deed_c (m : Mem) (w : World) (hm : m.In w) (cs : List Value) (d : Dk) (h : dkL.rd m cs d) (hok : checkOK d) (gf : Nat) (lb : Array Value) (eg : Enters Try.prog gf) (act : Dk → Dk) (hdoes : Does w m gf lb d act) (hin : ∀ x ∈ (act d).dry, InK .u8 x) :
    Calls Try.prog 71 #[.agg cs.toArray, .func (.func gf) #[] lb] w (RetDE w m (deedD act d) (deedE d)) := by
  have HH := Lib.hid h
  obtain ⟨v0, v1, rfl, h0, h1, _⟩ := dkL_open h
  obtain ⟨p0, c0, rfl, a1, a2, _, a4⟩ := Lay.list_open h0
  obtain ⟨p1, c1, rfl, b1, b2, b3, b4⟩ := Lay.list_open h1
  have hS := St.start hm
  have HR := Lib.hid a4.inK
  have HO := Lib.hid (row_octets b4)
  have HD := Lib.hid hdoes
  have HI := Lib.hid hin
  have HK := Lib.hid hok
  have hf1 := hok.2.2.2.2.2.1
  have hf2 := hok.2.2.2.2.2.2
  clear h h0 h1 b3 a1 a2 a4 b1 b2 b4 hdoes hin hok
  unfold Enters at eg
  have ways : (d.fuse = 0) ∨ (d.fuse = -1) ∨ (1 ≤ d.fuse ∧ ((d.fuse == 0) = false) ∧ ((d.fuse == -1) = false)) := by
    simp only [beq_eq_false_iff_ne]; omega
  have K := fun (vd vq : Value) => ()
  rcases ways with hw | hw | ⟨hw, hw2, hw3⟩
  all_goals
    first
    | (rw [hw] at HH; have HW := Lib.hid hw; rw [hw])
    | (have HW := Lib.hid hw)
    go_enter Try.func71, Try.ntmps71
    go_wp2_with (first 
    | ((with_reducible apply l_box (ty := 44) (y := (.tmp 0)) hS); (· (first | (go_simp; done) | (go_simp; with_reducible rfl))); (· exact rfl); intro w2 b2 hS1; replace hS := hS1; clear hS1)
    | ((with_reducible apply l_alloc (ty := 44) (dst := some 4) hS (.agg #[.slice none 0 0, .slice none 0 0, .int .i64 0, .bool false]) [.slice none 0 0, .slice none 0 0, .int .i64 0, .bool false]); (· kernel_rfl); (· rfl); intro w4 b4 hS1; replace hS := hS1; clear hS1)
    | ((with_reducible apply l_load hS); (· (first | exact Try.underlying3)); (· exact rfl); (· exact rfl); (· (first | (apply Find.box; (· (repeat (first | exact List.Mem.head _ | apply List.Mem.tail))); rfl) | exact Find.mem (by assumption) | (refine Find.row (by (repeat (first | exact List.Mem.head _ | apply List.Mem.tail))) ?_; assumption))))
    | ((with_reducible apply g_load hS); (· (first | exact Try.underlying3)); (· exact rfl); (· (first | rfl | (go_simp; done))); (· exact rfl); (· (first | (apply Find.box; (· (repeat (first | exact List.Mem.head _ | apply List.Mem.tail))); rfl) | exact Find.mem (by assumption) | (refine Find.row (by (repeat (first | exact List.Mem.head _ | apply List.Mem.tail))) ?_; assumption))))
    | ((with_reducible apply l_loads hS); (· (first | exact (show ∃ d, Try.prog.underlying 44 = some d ∧ d.isRow = true ∧ (Try.prog.info? 44).map (·.size) = some 4 from ⟨_, Try.underlying44, rfl, by kernel_rfl⟩))); (· exact rfl); (· (first | (apply Finds.box; (· (repeat (first | exact List.Mem.head _ | apply List.Mem.tail))); (· (repeat (first | exact SubL.stop | apply SubL.take | apply SubL.skip))); done) | (refine Finds.mem2 (by assumption) ?_; first | rfl | assumption | (simp; done)) | (apply Finds.row; (· (repeat (first | exact List.Mem.head _ | apply List.Mem.tail))); (· assumption); (· rfl)))))
    | ((with_reducible apply g_loads hS); (· (first | exact (show ∃ d, Try.prog.underlying 44 = some d ∧ d.isRow = true ∧ (Try.prog.info? 44).map (·.size) = some 4 from ⟨_, Try.underlying44, rfl, by kernel_rfl⟩))); (· (first | rfl | (go_simp; done))); (· exact rfl); (· (first | (apply Finds.box; (· (repeat (first | exact List.Mem.head _ | apply List.Mem.tail))); (· (repeat (first | exact SubL.stop | apply SubL.take | apply SubL.skip))); done) | (refine Finds.mem2 (by assumption) ?_; first | rfl | assumption | (simp; done)) | (apply Finds.row; (· (repeat (first | exact List.Mem.head _ | apply List.Mem.tail))); (· assumption); (· rfl)))))
    | ((with_reducible apply l_store hS); (· (first | exact ⟨_, Try.underlying3, rfl, by kernel_rfl⟩ | exact ⟨_, Try.underlying4, rfl, by kernel_rfl⟩)); (· exact rfl); (· (first | (go_simp; done) | (go_simp; with_reducible rfl))); (· (first | rfl | assumption | (simp [Value.oneCell']; done))); (· (repeat (first | exact List.Mem.head _ | apply List.Mem.tail))); (· (repeat (first | exact SetsL.stop | apply SetsL.put | apply SetsL.skip))); (· (repeat (first | exact UpdB.head | apply UpdB.tail))); intro ws hS1; replace hS := hS1; clear hS1)
    | ((with_reducible apply l_storeR hS); (· (first | exact ⟨_, Try.underlying3, rfl, by kernel_rfl⟩ | exact ⟨_, Try.underlying4, rfl, by kernel_rfl⟩)); (· exact rfl); (· (first | (go_simp; done) | (go_simp; with_reducible rfl))); (· (first | rfl | assumption | (simp [Value.oneCell']; done))); (· (repeat (first | exact RowAt.head | apply RowAt.tail))); (· (first | assumption | omega | (simp; omega))); intro ws hS1; replace hS := hS1; clear hS1)
    | ((with_reducible apply l_stores hS); (· (first | exact (show ∃ d, Try.prog.underlying 44 = some d ∧ d.isRow = true ∧ (Try.prog.info? 44).map (·.size) = some 4 from ⟨_, Try.underlying44, rfl, by kernel_rfl⟩))); (· exact rfl); (· exact rfl); (· exact rfl); (· (first | assumption | (simp [Value.oneCell']; done))); (· (repeat (first | exact List.Mem.head _ | apply List.Mem.tail))); (· (repeat (first | exact SetsL.stop | apply SetsL.put | apply SetsL.skip))); (· (repeat (first | exact UpdB.head | apply UpdB.tail))); intro ws hS1; replace hS := hS1; clear hS1)
      | (go_at_call 77; refine (own_c _ _ hS.inw _ _ HH.out).mono ?_; rintro e' w7 ⟨vd, vq, cells, m6, rfl, hc, hk⟩; (try rw [HW.out]); replace hS := hS.callOwn hk; have hle6 := hk.le; simp only [List.cons_append, List.nil_append] at hS; obtain ⟨qd, cd, rfl⟩ := row_form (hS.row 0 rfl); obtain ⟨qq, cq, rfl⟩ := row_form (hS.row 1 rfl); have HC := Lib.hid hc; clear hc hk))
  · have e0 : d.fuse = 0 := HW.out
    have e1 : deedD act d = { d with dead := true } := if_pos e0
    refine ret_cell_tmp (n := 4) rfl rfl hS (by (repeat (first | exact List.Mem.head _ | apply List.Mem.tail))) (by rfl) dkRow rfl ?_
    rw [e1]
    exact close_own (if_pos e0) e0 rfl (inK64 (by omega) (by omega)) hS HR.out HC.out (ok_big HK.out).1 (ok_big HK.out).2
  · replace hS := ((hS.front (x := .row 102 _ _ _ _) (by (repeat (first | exact Out.head | apply Out.tail)))).front (x := .row 5 _ _ _ _) (by (repeat (first | exact Out.head | apply Out.tail)))).front (x := .box b2 _) (by (repeat (first | exact Out.head | apply Out.tail)))
    refine (HD.out _ _ _ _ _ _ _ _ _ _ (St.subGe (ls := [_, _, _]) hS) hS.below hS.le HC.out (St.sub (ls := [_, _, _]) hS)).mono ?_
    rintro e' w21 ⟨rfl, vq, m8, hvq, hlen, hk⟩
    replace hS := St.lendL (ls := [_, _, _]) hS hk
    simp only [List.cons_append, List.nil_append] at hS
    obtain ⟨q8, c8, rfl, _⟩ := Lay.list_open hvq
    have HV := Lib.hid hvq
    have HLN := Lib.hid hlen
    clear hk hvq hlen
    go_wp2_with (first 
    | ((with_reducible apply l_box (ty := 44) (y := (.tmp 0)) hS); (· (first | (go_simp; done) | (go_simp; with_reducible rfl))); (· exact rfl); intro w2 b2 hS1; replace hS := hS1; clear hS1)
    | ((with_reducible apply l_alloc (ty := 44) (dst := some 4) hS (.agg #[.slice none 0 0, .slice none 0 0, .int .i64 0, .bool false]) [.slice none 0 0, .slice none 0 0, .int .i64 0, .bool false]); (· kernel_rfl); (· rfl); intro w4 b4 hS1; replace hS := hS1; clear hS1)
    | ((with_reducible apply l_load hS); (· (first | exact Try.underlying3)); (· exact rfl); (· exact rfl); (· (first | (apply Find.box; (· (repeat (first | exact List.Mem.head _ | apply List.Mem.tail))); rfl) | exact Find.mem (by assumption) | (refine Find.row (by (repeat (first | exact List.Mem.head _ | apply List.Mem.tail))) ?_; assumption))))
    | ((with_reducible apply g_load hS); (· (first | exact Try.underlying3)); (· exact rfl); (· (first | rfl | (go_simp; done))); (· exact rfl); (· (first | (apply Find.box; (· (repeat (first | exact List.Mem.head _ | apply List.Mem.tail))); rfl) | exact Find.mem (by assumption) | (refine Find.row (by (repeat (first | exact List.Mem.head _ | apply List.Mem.tail))) ?_; assumption))))
    | ((with_reducible apply l_loads hS); (· (first | exact (show ∃ d, Try.prog.underlying 44 = some d ∧ d.isRow = true ∧ (Try.prog.info? 44).map (·.size) = some 4 from ⟨_, Try.underlying44, rfl, by kernel_rfl⟩))); (· exact rfl); (· (first | (apply Finds.box; (· (repeat (first | exact List.Mem.head _ | apply List.Mem.tail))); (· (repeat (first | exact SubL.stop | apply SubL.take | apply SubL.skip))); done) | (refine Finds.mem2 (by assumption) ?_; first | rfl | assumption | (simp; done)) | (apply Finds.row; (· (repeat (first | exact List.Mem.head _ | apply List.Mem.tail))); (· assumption); (· rfl)))))
    | ((with_reducible apply g_loads hS); (· (first | exact (show ∃ d, Try.prog.underlying 44 = some d ∧ d.isRow = true ∧ (Try.prog.info? 44).map (·.size) = some 4 from ⟨_, Try.underlying44, rfl, by kernel_rfl⟩))); (· (first | rfl | (go_simp; done))); (· exact rfl); (· (first | (apply Finds.box; (· (repeat (first | exact List.Mem.head _ | apply List.Mem.tail))); (· (repeat (first | exact SubL.stop | apply SubL.take | apply SubL.skip))); done) | (refine Finds.mem2 (by assumption) ?_; first | rfl | assumption | (simp; done)) | (apply Finds.row; (· (repeat (first | exact List.Mem.head _ | apply List.Mem.tail))); (· assumption); (· rfl)))))
    | ((with_reducible apply l_store hS); (· (first | exact ⟨_, Try.underlying3, rfl, by kernel_rfl⟩ | exact ⟨_, Try.underlying4, rfl, by kernel_rfl⟩)); (· exact rfl); (· (first | (go_simp; done) | (go_simp; with_reducible rfl))); (· (first | rfl | assumption | (simp [Value.oneCell']; done))); (· (repeat (first | exact List.Mem.head _ | apply List.Mem.tail))); (· (repeat (first | exact SetsL.stop | apply SetsL.put | apply SetsL.skip))); (· (repeat (first | exact UpdB.head | apply UpdB.tail))); intro ws hS1; replace hS := hS1; clear hS1)
    | ((with_reducible apply l_storeR hS); (· (first | exact ⟨_, Try.underlying3, rfl, by kernel_rfl⟩ | exact ⟨_, Try.underlying4, rfl, by kernel_rfl⟩)); (· exact rfl); (· (first | (go_simp; done) | (go_simp; with_reducible rfl))); (· (first | rfl | assumption | (simp [Value.oneCell']; done))); (· (repeat (first | exact RowAt.head | apply RowAt.tail))); (· (first | assumption | omega | (simp; omega))); intro ws hS1; replace hS := hS1; clear hS1)
    | ((with_reducible apply l_stores hS); (· (first | exact (show ∃ d, Try.prog.underlying 44 = some d ∧ d.isRow = true ∧ (Try.prog.info? 44).map (·.size) = some 4 from ⟨_, Try.underlying44, rfl, by kernel_rfl⟩))); (· exact rfl); (· exact rfl); (· exact rfl); (· (first | assumption | (simp [Value.oneCell']; done))); (· (repeat (first | exact List.Mem.head _ | apply List.Mem.tail))); (· (repeat (first | exact SetsL.stop | apply SetsL.put | apply SetsL.skip))); (· (repeat (first | exact UpdB.head | apply UpdB.tail))); intro ws hS1; replace hS := hS1; clear hS1))
    refine ret_cell_tmp (n := 4) rfl rfl hS (by (repeat (first | exact List.Mem.head _ | apply List.Mem.tail))) (by rfl) dkRow rfl ?_
    replace hS := hS.front (x := .row 5 1 _ _ _) (by (repeat (first | exact Out.head | apply Out.tail)))
    have hl := HLN.out
    have e0 : d.fuse = -1 := HW.out
    have e1 : deedD act d = { act d with fuse := -1, dead := d.dead } := by unfold deedD; rw [if_neg (by omega), if_pos e0]
    rw [e1]
    exact close_half (D := { act d with fuse := -1, dead := d.dead }) (by unfold deedE; exact if_neg (by omega)) rfl rfl (inK64 (by omega) (by omega)) (by rw [← hl] at hS; rw [← hl]; exact hS) HI.out HV.out (by show (act d).dry.length ≤ _; have := HK.out.2.1; omega)
  · replace hS := ((hS.front (x := .row 102 _ _ _ _) (by (repeat (first | exact Out.head | apply Out.tail)))).front (x := .row 5 _ _ _ _) (by (repeat (first | exact Out.head | apply Out.tail)))).front (x := .box b2 _) (by (repeat (first | exact Out.head | apply Out.tail)))
    refine (HD.out _ _ _ _ _ _ _ _ _ _ (St.subGe (ls := [_, _, _]) hS) hS.below hS.le HC.out (St.sub (ls := [_, _, _]) hS)).mono ?_
    rintro e' w21 ⟨rfl, vq, m8, hvq, hlen, hk⟩
    replace hS := St.lendL (ls := [_, _, _]) hS hk
    simp only [List.cons_append, List.nil_append] at hS
    obtain ⟨q8, c8, rfl, _⟩ := Lay.list_open hvq
    have HV := Lib.hid hvq
    have HLN := Lib.hid hlen
    clear hk hvq hlen
    go_wp2_with (first 
    | ((with_reducible apply l_box (ty := 44) (y := (.tmp 0)) hS); (· (first | (go_simp; done) | (go_simp; with_reducible rfl))); (· exact rfl); intro w2 b2 hS1; replace hS := hS1; clear hS1)
    | ((with_reducible apply l_alloc (ty := 44) (dst := some 4) hS (.agg #[.slice none 0 0, .slice none 0 0, .int .i64 0, .bool false]) [.slice none 0 0, .slice none 0 0, .int .i64 0, .bool false]); (· kernel_rfl); (· rfl); intro w4 b4 hS1; replace hS := hS1; clear hS1)
    | ((with_reducible apply l_load hS); (· (first | exact Try.underlying3)); (· exact rfl); (· exact rfl); (· (first | (apply Find.box; (· (repeat (first | exact List.Mem.head _ | apply List.Mem.tail))); rfl) | exact Find.mem (by assumption) | (refine Find.row (by (repeat (first | exact List.Mem.head _ | apply List.Mem.tail))) ?_; assumption))))
    | ((with_reducible apply g_load hS); (· (first | exact Try.underlying3)); (· exact rfl); (· (first | rfl | (go_simp; done))); (· exact rfl); (· (first | (apply Find.box; (· (repeat (first | exact List.Mem.head _ | apply List.Mem.tail))); rfl) | exact Find.mem (by assumption) | (refine Find.row (by (repeat (first | exact List.Mem.head _ | apply List.Mem.tail))) ?_; assumption))))
    | ((with_reducible apply l_loads hS); (· (first | exact (show ∃ d, Try.prog.underlying 44 = some d ∧ d.isRow = true ∧ (Try.prog.info? 44).map (·.size) = some 4 from ⟨_, Try.underlying44, rfl, by kernel_rfl⟩))); (· exact rfl); (· (first | (apply Finds.box; (· (repeat (first | exact List.Mem.head _ | apply List.Mem.tail))); (· (repeat (first | exact SubL.stop | apply SubL.take | apply SubL.skip))); done) | (refine Finds.mem2 (by assumption) ?_; first | rfl | assumption | (simp; done)) | (apply Finds.row; (· (repeat (first | exact List.Mem.head _ | apply List.Mem.tail))); (· assumption); (· rfl)))))
    | ((with_reducible apply g_loads hS); (· (first | exact (show ∃ d, Try.prog.underlying 44 = some d ∧ d.isRow = true ∧ (Try.prog.info? 44).map (·.size) = some 4 from ⟨_, Try.underlying44, rfl, by kernel_rfl⟩))); (· (first | rfl | (go_simp; done))); (· exact rfl); (· (first | (apply Finds.box; (· (repeat (first | exact List.Mem.head _ | apply List.Mem.tail))); (· (repeat (first | exact SubL.stop | apply SubL.take | apply SubL.skip))); done) | (refine Finds.mem2 (by assumption) ?_; first | rfl | assumption | (simp; done)) | (apply Finds.row; (· (repeat (first | exact List.Mem.head _ | apply List.Mem.tail))); (· assumption); (· rfl)))))
    | ((with_reducible apply l_store hS); (· (first | exact ⟨_, Try.underlying3, rfl, by kernel_rfl⟩ | exact ⟨_, Try.underlying4, rfl, by kernel_rfl⟩)); (· exact rfl); (· (first | (go_simp; done) | (go_simp; with_reducible rfl))); (· (first | rfl | assumption | (simp [Value.oneCell']; done))); (· (repeat (first | exact List.Mem.head _ | apply List.Mem.tail))); (· (repeat (first | exact SetsL.stop | apply SetsL.put | apply SetsL.skip))); (· (repeat (first | exact UpdB.head | apply UpdB.tail))); intro ws hS1; replace hS := hS1; clear hS1)
    | ((with_reducible apply l_storeR hS); (· (first | exact ⟨_, Try.underlying3, rfl, by kernel_rfl⟩ | exact ⟨_, Try.underlying4, rfl, by kernel_rfl⟩)); (· exact rfl); (· (first | (go_simp; done) | (go_simp; with_reducible rfl))); (· (first | rfl | assumption | (simp [Value.oneCell']; done))); (· (repeat (first | exact RowAt.head | apply RowAt.tail))); (· (first | assumption | omega | (simp; omega))); intro ws hS1; replace hS := hS1; clear hS1)
    | ((with_reducible apply l_stores hS); (· (first | exact (show ∃ d, Try.prog.underlying 44 = some d ∧ d.isRow = true ∧ (Try.prog.info? 44).map (·.size) = some 4 from ⟨_, Try.underlying44, rfl, by kernel_rfl⟩))); (· exact rfl); (· exact rfl); (· exact rfl); (· (first | assumption | (simp [Value.oneCell']; done))); (· (repeat (first | exact List.Mem.head _ | apply List.Mem.tail))); (· (repeat (first | exact SetsL.stop | apply SetsL.put | apply SetsL.skip))); (· (repeat (first | exact UpdB.head | apply UpdB.tail))); intro ws hS1; replace hS := hS1; clear hS1))
    refine ret_cell_tmp (n := 4) rfl rfl hS (by (repeat (first | exact List.Mem.head _ | apply List.Mem.tail))) (by rfl) dkRow rfl ?_
    replace hS := hS.front (x := .row 5 1 _ _ _) (by (repeat (first | exact Out.head | apply Out.tail)))
    have hl := HLN.out
    have e1 : deedD act d = { act d with fuse := d.fuse - 1, dead := d.dead } := by unfold deedD; rw [if_neg (by omega), if_neg (by omega)]
    rw [e1]
    exact close_half (D := { act d with fuse := d.fuse - 1, dead := d.dead }) (by unfold deedE; exact if_neg (by omega)) rfl rfl (inK64 (by omega) (by omega)) (by rw [← hl] at hS; rw [← hl]; exact hS) HI.out HV.out (by show (act d).dry.length ≤ _; have := HK.out.2.1; omega)
end Go.Proofs.Ytnmgiiaejpaeeaa
/- Contracts of package disk over the state of a walk: Flush, Write. -/
namespace Go.Proofs.Ytnmgiiaejpaeeaa
set_option linter.unusedVariables false
set_option linter.unusedSimpArgs false
open Go.RowKit Go.Shelf
theorem St.below_of {X : List Nat} {w0 w : World} {m0 m : Mem} {es : List Ent} (h : St X w0 m0 w es m) (B : Nat) (hB : B ≤ w0.heap.size) (hX : ∀ b, b ∈ X → B ≤ b) : Below B w0 w :=
  ⟨h.kept.os, h.kept.tape, h.kept.output, h.kept.size, fun k hk => h.kept.block k (by omega) fun hm => by have := hX k hm; omega⟩
set_option maxRecDepth 100000 in
set_option maxHeartbeats 4000000 in
theorem flush1_c (m : Mem) (w : World) (d : Dk) (hok : checkOK d) : Does w m 74 #[] d flushAct := by
  intro X W mW T qd qq cd cq cells f hX hb hle hc hS
  obtain ⟨m7, hS7, hle7, hq7⟩ := hS.settleRow (L := wrL) 2 rfl hc (ok_big hok).2
  simp only [List.eraseIdx_cons_succ, List.eraseIdx_cons_zero] at hS7
  obtain ⟨gd, rfl, _⟩ := row_head (hS7.row 1 rfl) (by have := hok.1; omega)
  have HQ := Lib.hid hq7
  have HK := Lib.hid hok
  have HP := Lib.hid (placed_of_ok hok)
  have ec := enters_of Try.func76 (by kernel_rfl) rfl
  clear hS hc hq7 hok hle hb hX
  go_enter Try.func74, Try.ntmps74
  go_wp2_with fail
  refine (settle_c _ _ _ _ _ _ _ _ _ d (St.sub (ls := [_, _]) (rest := []) hS7) HQ.out HP.out HK.out.2.1 HK.out.2.2.2.1 76 #[] ec (fun _ => 32) (fun _ => Nat.le_refl _) (fun k W _ _ => by simpa using all_any k W)).mono ?_
  rintro e' w16 ⟨rfl, hk⟩
  replace hS7 := St.lendL (ls := [_, _]) (rest := []) hS7 hk
  simp only [List.cons_append, List.nil_append] at hS7
  clear hk
  go_wp2_with fail
  go_end0
  exact ⟨rfl, _, m7, Lay.nil_rd _ _, settleAt_length (fun _ => 32) d.dry.length (fun _ => Nat.le_refl _) d.wet 0 d.dry rfl fun x hx => (HP.out x hx).2, hS7⟩
theorem octets_of {m : Mem} {cs : List Value} {d : Dk} (h : dkL.rd m cs d) : (∀ x ∈ d.dry, InK .u8 x) ∧ ∀ y ∈ d.wet, ∀ x ∈ y.b, InK .u8 x := by
  obtain ⟨v0, v1, rfl, h0, h1, _⟩ := dkL_open h
  obtain ⟨_, _, _, _, _, _, a4⟩ := Lay.list_open h0
  obtain ⟨_, _, _, _, _, _, b4⟩ := Lay.list_open h1
  exact ⟨a4.inK, row_octets b4⟩
set_option maxRecDepth 100000 in
set_option maxHeartbeats 4000000 in
theorem flush_c (m : Mem) (w : World) (hm : m.In w) (cs : List Value) (d : Dk) (h : dkL.rd m cs d) :
    Calls Try.prog 37 #[.agg cs.toArray] w (RetDE w m (flushD d) (flushE d)) := by
  have HH := Lib.hid h
  have HO := Lib.hid (octets_of h)
  obtain ⟨v0, v1, rfl, h0, h1, _⟩ := dkL_open h
  obtain ⟨p0, c0, rfl, _⟩ := Lay.list_open h0
  obtain ⟨p1, c1, rfl, _⟩ := Lay.list_open h1
  have hS := St.start hm
  clear h h0 h1
  have ec := enters_of Try.func74 (by kernel_rfl) rfl
  have ways : (aliveE d = 0 ∧ checkOK d) ∨ (aliveE d = 1) ∨ (aliveE d = 11) := by
    rcases checkE_cases d with ⟨_, h⟩ | ⟨_, h⟩
    · cases hd : d.dead
      · exact .inl ⟨(alive_of hd).1 h, h⟩
      · exact .inr (.inr ((alive_of hd).1 h))
    · exact .inr (.inl ((alive_of rfl).2 h))
  rcases ways with ⟨hA, hok⟩ | hA | hA
  · have HA := Lib.hid hA
    have HK := Lib.hid hok
    clear hA hok
    go_enter Try.func37, Try.ntmps37
    go_wp2_with (first 
    | ((with_reducible apply l_box (ty := 44) (y := (.tmp 0)) hS); (· (first | (go_simp; done) | (go_simp; with_reducible rfl))); (· exact rfl); intro w1 b1 hS1; replace hS := hS1; clear hS1)
    | ((with_reducible apply l_alloc (ty := 44) (dst := some 2) hS (.agg #[.slice none 0 0, .slice none 0 0, .int .i64 0, .bool false]) [.slice none 0 0, .slice none 0 0, .int .i64 0, .bool false]); (· kernel_rfl); (· rfl); intro w2 b2 hS1; replace hS := hS1; clear hS1)
    | ((with_reducible apply l_loads hS); (· (first | exact (show ∃ d, Try.prog.underlying 44 = some d ∧ d.isRow = true ∧ (Try.prog.info? 44).map (·.size) = some 4 from ⟨_, Try.underlying44, rfl, by kernel_rfl⟩))); (· exact rfl); (· (first | (apply Finds.box; (· (repeat (first | exact List.Mem.head _ | apply List.Mem.tail))); (· (repeat (first | exact SubL.stop | apply SubL.take | apply SubL.skip))); done) | (refine Finds.mem2 (by assumption) ?_; first | rfl | assumption | (simp; done)) | (apply Finds.row; (· (repeat (first | exact List.Mem.head _ | apply List.Mem.tail))); (· assumption); (· rfl)))))
    | ((with_reducible apply g_loads hS); (· (first | exact (show ∃ d, Try.prog.underlying 44 = some d ∧ d.isRow = true ∧ (Try.prog.info? 44).map (·.size) = some 4 from ⟨_, Try.underlying44, rfl, by kernel_rfl⟩))); (· (first | rfl | (go_simp; done))); (· exact rfl); (· (first | (apply Finds.box; (· (repeat (first | exact List.Mem.head _ | apply List.Mem.tail))); (· (repeat (first | exact SubL.stop | apply SubL.take | apply SubL.skip))); done) | (refine Finds.mem2 (by assumption) ?_; first | rfl | assumption | (simp; done)) | (apply Finds.row; (· (repeat (first | exact List.Mem.head _ | apply List.Mem.tail))); (· assumption); (· rfl)))))
    | ((with_reducible apply l_stores hS); (· (first | exact (show ∃ d, Try.prog.underlying 44 = some d ∧ d.isRow = true ∧ (Try.prog.info? 44).map (·.size) = some 4 from ⟨_, Try.underlying44, rfl, by kernel_rfl⟩))); (· exact rfl); (· exact rfl); (· exact rfl); (· (first | assumption | (simp [Value.oneCell']; done))); (· (repeat (first | exact List.Mem.head _ | apply List.Mem.tail))); (· (repeat (first | exact SetsL.stop | apply SetsL.put | apply SetsL.skip))); (· (repeat (first | exact UpdB.head | apply UpdB.tail))); intro ws hS1; replace hS := hS1; clear hS1)
      | (go_at_call 69; refine (alive_c _ _ hS.inw _ _ HH.out).mono ?_; rintro e' w6 ⟨v6, m5, rfl, rfl, hk⟩; rw [HA.out]; replace hS := hS.call hk; have hle := hk.le; clear hk)
      | (go_at_call 71; refine (deed_c _ _ hS.inw _ _ (dkL.mono hle HH.out) HK.out 74 #[] ec flushAct (flush1_c _ _ d HK.out) (settle_inK _ _ _ _ HO.out.1 HO.out.2)).mono ?_; rintro e' w12 ⟨v12, m12, rfl, ⟨cs12, rfl, hr12⟩, hk⟩; replace hS := hS.call hk; clear hk; have HR := Lib.hid hr12; have hone := dkL.one hr12; obtain ⟨u0, u1, rfl, _⟩ := dkL_open hr12; clear hr12))
    refine ret_cell_tmp (n := 4) rfl rfl hS (by (repeat (first | exact List.Mem.head _ | apply List.Mem.tail))) (by rfl) dkRow rfl ?_
    have E := fl_ok HA.out
    rw [E.1, E.2]
    exact ⟨_, _, rfl, ⟨_, rfl, HR.out⟩, hS.done⟩
  all_goals
    have HA := Lib.hid hA
    clear hA
    go_enter Try.func37, Try.ntmps37
    go_wp2_with (first 
    | ((with_reducible apply l_box (ty := 44) (y := (.tmp 0)) hS); (· (first | (go_simp; done) | (go_simp; with_reducible rfl))); (· exact rfl); intro w1 b1 hS1; replace hS := hS1; clear hS1)
    | ((with_reducible apply l_alloc (ty := 44) (dst := some 2) hS (.agg #[.slice none 0 0, .slice none 0 0, .int .i64 0, .bool false]) [.slice none 0 0, .slice none 0 0, .int .i64 0, .bool false]); (· kernel_rfl); (· rfl); intro w2 b2 hS1; replace hS := hS1; clear hS1)
    | ((with_reducible apply l_loads hS); (· (first | exact (show ∃ d, Try.prog.underlying 44 = some d ∧ d.isRow = true ∧ (Try.prog.info? 44).map (·.size) = some 4 from ⟨_, Try.underlying44, rfl, by kernel_rfl⟩))); (· exact rfl); (· (first | (apply Finds.box; (· (repeat (first | exact List.Mem.head _ | apply List.Mem.tail))); (· (repeat (first | exact SubL.stop | apply SubL.take | apply SubL.skip))); done) | (refine Finds.mem2 (by assumption) ?_; first | rfl | assumption | (simp; done)) | (apply Finds.row; (· (repeat (first | exact List.Mem.head _ | apply List.Mem.tail))); (· assumption); (· rfl)))))
    | ((with_reducible apply g_loads hS); (· (first | exact (show ∃ d, Try.prog.underlying 44 = some d ∧ d.isRow = true ∧ (Try.prog.info? 44).map (·.size) = some 4 from ⟨_, Try.underlying44, rfl, by kernel_rfl⟩))); (· (first | rfl | (go_simp; done))); (· exact rfl); (· (first | (apply Finds.box; (· (repeat (first | exact List.Mem.head _ | apply List.Mem.tail))); (· (repeat (first | exact SubL.stop | apply SubL.take | apply SubL.skip))); done) | (refine Finds.mem2 (by assumption) ?_; first | rfl | assumption | (simp; done)) | (apply Finds.row; (· (repeat (first | exact List.Mem.head _ | apply List.Mem.tail))); (· assumption); (· rfl)))))
    | ((with_reducible apply l_stores hS); (· (first | exact (show ∃ d, Try.prog.underlying 44 = some d ∧ d.isRow = true ∧ (Try.prog.info? 44).map (·.size) = some 4 from ⟨_, Try.underlying44, rfl, by kernel_rfl⟩))); (· exact rfl); (· exact rfl); (· exact rfl); (· (first | assumption | (simp [Value.oneCell']; done))); (· (repeat (first | exact List.Mem.head _ | apply List.Mem.tail))); (· (repeat (first | exact SetsL.stop | apply SetsL.put | apply SetsL.skip))); (· (repeat (first | exact UpdB.head | apply UpdB.tail))); intro ws hS1; replace hS := hS1; clear hS1)
      | (go_at_call 69; refine (alive_c _ _ hS.inw _ _ HH.out).mono ?_; rintro e' w6 ⟨v6, m5, rfl, rfl, hk⟩; rw [HA.out]; replace hS := hS.call hk; clear hk))
    refine ret_cell_tmp (n := 4) rfl rfl hS (by (repeat (first | exact List.Mem.head _ | apply List.Mem.tail))) (by rfl) dkRow rfl ?_
    have E := fl_err HA.out (by decide)
    exact close_err E.1 E.2 hS
end Go.Proofs.Ytnmgiiaejpaeeaa
/- Contract of disk.Write over the state of a walk. -/
namespace Go.Proofs.Ytnmgiiaejpaeeaa
set_option linter.unusedVariables false
set_option linter.unusedSimpArgs false
open Go.RowKit Go.Shelf
set_option maxRecDepth 100000 in
set_option maxHeartbeats 4000000 in
theorem write1_c (m : Mem) (w : World) (d : Dk) (k : Int) (b4 b5 : Nat) (pb : Option Addr) (cb : Nat) (b : List Int) (hk : m ⟨b4, 0, none⟩ = some (.int .i64 k)) (hb5 : m ⟨b5, 0, none⟩ = some (.slice pb b.length cb)) (hb : bytesL.rd m [.slice pb b.length cb] b)
    (hik : InK .i64 k) (hw : d.wet.length < 8192) : Does w m 72 #[.pointer (some ⟨b4, 0, none⟩), .pointer (some ⟨b5, 0, none⟩)] d (writeAct k b) := by
  intro X W mW T qd qq cd cq cells f hX hbel hle hc hS
  have k4 := hle _ _ hk
  have k5 := hle _ _ hb5
  have HB := Lib.hid (bytesL.mono hle hb)
  have HC := Lib.hid hc
  have HW := Lib.hid hw
  have HIK := Lib.hid hik
  clear hk hb5 hb hle hc hbel hX hw hik
  go_enter Try.func72, Try.ntmps72
  go_wp2_with fail
  replace hS := hS.drew
  refine startL (S := Sx _ []) (by kernel_rfl) hS.sx0 (fun _ _ _ _ => trivial) (fun hHeld => ?_)
  focus (refine takeL 0 (v := ?_) rfl (by kernel_rfl) (by kernel_rfl) (by kernel_rfl) (fun _ _ _ h => h) (by assumption) (by first | rfl | (go_simp <;> fail)) ?_ ?_; rotate_left; focus (intro w hSw; clear hSw; go_simp; try with_reducible rfl))
  try simp only [Act.put, List.setIfInBounds_toArray, List.set_cons_zero, List.set_cons_succ]
  focus (refine takeL 1 (v := ?_) rfl (by kernel_rfl) (by kernel_rfl) (by kernel_rfl) (fun _ _ _ h => h) (by assumption) (by first | rfl | (go_simp <;> fail)) ?_ ?_; rotate_left; focus (intro w hSw; clear hSw; go_simp; try with_reducible rfl))
  try simp only [Act.put, List.setIfInBounds_toArray, List.set_cons_zero, List.set_cons_succ]
  focus (refine takeL 2 (v := ?_) rfl (by kernel_rfl) (by kernel_rfl) (by kernel_rfl) (fun _ _ _ h => h) (by assumption) (by first | rfl | (go_simp <;> fail)) ?_ ?_; rotate_left; focus (intro w hSw; clear hSw; go_simp; try with_reducible rfl))
  try simp only [Act.put, List.setIfInBounds_toArray, List.set_cons_zero, List.set_cons_succ]
  focus (refine takeL 3 (v := ?_) rfl (by kernel_rfl) (by kernel_rfl) (by kernel_rfl) (fun _ _ _ h => h) (by assumption) (by first | rfl | (go_simp <;> fail)) ?_ ?_; rotate_left; focus (intro w hSw; clear hSw; go_simp; try with_reducible rfl))
  try simp only [Act.put, List.setIfInBounds_toArray, List.set_cons_zero, List.set_cons_succ]
  refine takeL 5 rfl (by kernel_rfl) (by kernel_rfl) (by kernel_rfl) (fun _ _ _ h => h) (by assumption) (by first | rfl | (go_simp <;> fail)) (yield_load rfl Try.underlying3 rfl rfl (by (first | (apply FindX.box; (· (repeat (first | exact List.Mem.head _ | apply List.Mem.tail))); rfl) | exact FindX.mem (by assumption)))) ?_
  try simp only [Act.put, List.setIfInBounds_toArray, List.set_cons_zero, List.set_cons_succ]
  refine takeL 6 rfl (by kernel_rfl) (by kernel_rfl) (by kernel_rfl) (fun _ _ _ h => h) (by assumption) (by first | rfl | (go_simp <;> fail)) (yield_load rfl Try.underlying22 rfl rfl (by (first | (apply FindX.box; (· (repeat (first | exact List.Mem.head _ | apply List.Mem.tail))); rfl) | exact FindX.mem (by assumption)))) ?_
  try simp only [Act.put, List.setIfInBounds_toArray, List.set_cons_zero, List.set_cons_succ]
  refine wpAnyH_ready (rs := [4, 7]) (by kernel_rfl) (by simp) ?_
  refine consL 4 rfl (fun K hK => ?_) (consL 7 rfl (fun K hK => ?_) AllReadyH.nil)
  rotate_right
  focus
    rw [if_pos (by rfl)]; go_simp; refine (bclone_c _ _ hS.inw _ HB.out).mono ?_; rintro e' w11 ⟨q11, c11, news11, rfl, hc11, hk11⟩; replace hS := hS.callOwn hk11; clear hk11; go_wp2_with fail
    refine hK.out _ _ (by first | exact hS.sx0 | exact Sx.le (by assumption) hS.sx0) (fun hHeld => ?_)
    clear hK K
    try simp only [Act.put, List.setIfInBounds_toArray, List.set_cons_zero, List.set_cons_succ]
    focus (refine takeL 8 (v := ?_) rfl (by kernel_rfl) (by kernel_rfl) (by kernel_rfl) (fun _ _ _ h => h) (by assumption) (by first | rfl | (go_simp <;> fail)) ?_ ?_; rotate_left; focus (intro w hSw; clear hSw; go_simp; try with_reducible rfl))
    try simp only [Act.put, List.setIfInBounds_toArray, List.set_cons_zero, List.set_cons_succ]
    refine wpAnyH_ready (rs := [4, 9]) (by kernel_rfl) (by simp) ?_
    refine consL 4 rfl (fun K hK => ?_) (consL 9 rfl (fun K hK => ?_) AllReadyH.nil)
    rotate_right
    focus
      (with_reducible apply s_lit el_wr hS (cs := [.int .i64 k, .slice q11 b.length c11])); (· decide); (· decide); (· kernel_rfl); intro w13 b13 hS1; replace hS := hS1; clear hS1
      refine hK.out _ _ (by first | exact hS.sx0 | exact Sx.le (by assumption) hS.sx0) (fun hHeld => ?_)
      clear hK K
      try simp only [Act.put, List.setIfInBounds_toArray, List.set_cons_zero, List.set_cons_succ]
      refine wpAnyH_ready (rs := [4]) (by kernel_rfl) (by simp) ?_
      refine consL 4 rfl (fun K hK => ?_) AllReadyH.nil
      (with_reducible apply s_load hS); (· exact Try.underlying42); (· exact rfl); (· exact rfl); (· (first | (apply Find.box; (· (repeat (first | exact List.Mem.head _ | apply List.Mem.tail))); rfl) | exact Find.mem (by assumption) | (refine Find.row (by (repeat (first | exact List.Mem.head _ | apply List.Mem.tail))) ?_; assumption)))
      refine hK.out _ _ (by first | exact hS.sx0 | exact Sx.le (by assumption) hS.sx0) (fun hHeld => ?_)
      clear hK K
      try simp only [Act.put, List.setIfInBounds_toArray, List.set_cons_zero, List.set_cons_succ]
      refine wpAnyH_ready (rs := [10]) (by kernel_rfl) (by simp) ?_
      refine consL 10 rfl (fun K hK => ?_) AllReadyH.nil
      (with_reducible apply s_appendB el_wr hS (by decide)); (· exact rfl); (· (repeat (first | exact RowAt.head | apply RowAt.tail))); (· exact rfl); (· (repeat (first | exact List.Mem.head _ | apply List.Mem.tail))); (· rfl); (· simp [Value.oneCell']); (· have := HW.out; omega); intro w14 q14 c14 hS1; replace hS := hS1; clear hS1
      refine hK.out _ _ (by first | exact hS.sx0 | exact Sx.le (by assumption) hS.sx0) (fun hHeld => ?_)
      clear hK K
      try simp only [Act.put, List.setIfInBounds_toArray, List.set_cons_zero, List.set_cons_succ]
      focus (refine takeL 11 (v := ?_) rfl (by kernel_rfl) (by kernel_rfl) (by kernel_rfl) (fun _ _ _ h => h) (by assumption) (by first | rfl | (go_simp <;> fail)) ?_ ?_; rotate_left; focus (intro w hSw; clear hSw; go_simp; try with_reducible rfl))
      try simp only [Act.put, List.setIfInBounds_toArray, List.set_cons_zero, List.set_cons_succ]
      focus (refine takeL 12 (v := ?_) rfl (by kernel_rfl) (by kernel_rfl) (by kernel_rfl) (fun _ _ _ h => h) (by assumption) (by first | rfl | (go_simp <;> fail)) ?_ ?_; rotate_left; focus (intro w hSw; clear hSw; go_simp; try with_reducible rfl))
      try simp only [Act.put, List.setIfInBounds_toArray, List.set_cons_zero, List.set_cons_succ]
      refine wpAnyH_ready (rs := [13]) (by kernel_rfl) (by simp) ?_
      refine consL 13 rfl (fun K hK => ?_) AllReadyH.nil
      (with_reducible apply s_store hS); (· exact ⟨_, Try.underlying42, rfl, by kernel_rfl⟩); (· exact rfl); (· (first | (go_simp; done) | (go_simp; with_reducible rfl))); (· (first | rfl | assumption | (simp [Value.oneCell']; done))); (· (repeat (first | exact List.Mem.head _ | apply List.Mem.tail))); (· (repeat (first | exact SetsL.stop | apply SetsL.put | apply SetsL.skip))); (· (repeat (first | exact UpdB.head | apply UpdB.tail))); intro ws hS1; replace hS := hS1; clear hS1
      refine hK.out _ _ (by first | exact hS.sx0 | exact Sx.le (by assumption) hS.sx0) (fun hHeld => ?_)
      clear hK K
      try simp only [Act.put, List.setIfInBounds_toArray, List.set_cons_zero, List.set_cons_succ]
      refine wpAnyH_done (by kernel_rfl) ?_ _
      refine NoPanic.normal ?_
    rotate_right
    focus
      (with_reducible apply s_load hS); (· exact Try.underlying42); (· exact rfl); (· exact rfl); (· (first | (apply Find.box; (· (repeat (first | exact List.Mem.head _ | apply List.Mem.tail))); rfl) | exact Find.mem (by assumption) | (refine Find.row (by (repeat (first | exact List.Mem.head _ | apply List.Mem.tail))) ?_; assumption)))
      refine hK.out _ _ (by first | exact hS.sx0 | exact Sx.le (by assumption) hS.sx0) (fun hHeld => ?_)
      clear hK K
      try simp only [Act.put, List.setIfInBounds_toArray, List.set_cons_zero, List.set_cons_succ]
      refine wpAnyH_ready (rs := [9]) (by kernel_rfl) (by simp) ?_
      refine consL 9 rfl (fun K hK => ?_) AllReadyH.nil
      (with_reducible apply s_lit el_wr hS (cs := [.int .i64 k, .slice q11 b.length c11])); (· decide); (· decide); (· kernel_rfl); intro w13 b13 hS1; replace hS := hS1; clear hS1
      refine hK.out _ _ (by first | exact hS.sx0 | exact Sx.le (by assumption) hS.sx0) (fun hHeld => ?_)
      clear hK K
      try simp only [Act.put, List.setIfInBounds_toArray, List.set_cons_zero, List.set_cons_succ]
      refine wpAnyH_ready (rs := [10]) (by kernel_rfl) (by simp) ?_
      refine consL 10 rfl (fun K hK => ?_) AllReadyH.nil
      (with_reducible apply s_appendB el_wr hS (by decide)); (· exact rfl); (· (repeat (first | exact RowAt.head | apply RowAt.tail))); (· exact rfl); (· (repeat (first | exact List.Mem.head _ | apply List.Mem.tail))); (· rfl); (· simp [Value.oneCell']); (· have := HW.out; omega); intro w14 q14 c14 hS1; replace hS := hS1; clear hS1
      refine hK.out _ _ (by first | exact hS.sx0 | exact Sx.le (by assumption) hS.sx0) (fun hHeld => ?_)
      clear hK K
      try simp only [Act.put, List.setIfInBounds_toArray, List.set_cons_zero, List.set_cons_succ]
      focus (refine takeL 11 (v := ?_) rfl (by kernel_rfl) (by kernel_rfl) (by kernel_rfl) (fun _ _ _ h => h) (by assumption) (by first | rfl | (go_simp <;> fail)) ?_ ?_; rotate_left; focus (intro w hSw; clear hSw; go_simp; try with_reducible rfl))
      try simp only [Act.put, List.setIfInBounds_toArray, List.set_cons_zero, List.set_cons_succ]
      focus (refine takeL 12 (v := ?_) rfl (by kernel_rfl) (by kernel_rfl) (by kernel_rfl) (fun _ _ _ h => h) (by assumption) (by first | rfl | (go_simp <;> fail)) ?_ ?_; rotate_left; focus (intro w hSw; clear hSw; go_simp; try with_reducible rfl))
      try simp only [Act.put, List.setIfInBounds_toArray, List.set_cons_zero, List.set_cons_succ]
      refine wpAnyH_ready (rs := [13]) (by kernel_rfl) (by simp) ?_
      refine consL 13 rfl (fun K hK => ?_) AllReadyH.nil
      (with_reducible apply s_store hS); (· exact ⟨_, Try.underlying42, rfl, by kernel_rfl⟩); (· exact rfl); (· (first | (go_simp; done) | (go_simp; with_reducible rfl))); (· (first | rfl | assumption | (simp [Value.oneCell']; done))); (· (repeat (first | exact List.Mem.head _ | apply List.Mem.tail))); (· (repeat (first | exact SetsL.stop | apply SetsL.put | apply SetsL.skip))); (· (repeat (first | exact UpdB.head | apply UpdB.tail))); intro ws hS1; replace hS := hS1; clear hS1
      refine hK.out _ _ (by first | exact hS.sx0 | exact Sx.le (by assumption) hS.sx0) (fun hHeld => ?_)
      clear hK K
      try simp only [Act.put, List.setIfInBounds_toArray, List.set_cons_zero, List.set_cons_succ]
      refine wpAnyH_done (by kernel_rfl) ?_ _
      refine NoPanic.normal ?_
  rotate_right
  focus
    (with_reducible apply s_load hS); (· exact Try.underlying42); (· exact rfl); (· exact rfl); (· (first | (apply Find.box; (· (repeat (first | exact List.Mem.head _ | apply List.Mem.tail))); rfl) | exact Find.mem (by assumption) | (refine Find.row (by (repeat (first | exact List.Mem.head _ | apply List.Mem.tail))) ?_; assumption)))
    refine hK.out _ _ (by first | exact hS.sx0 | exact Sx.le (by assumption) hS.sx0) (fun hHeld => ?_)
    clear hK K
    try simp only [Act.put, List.setIfInBounds_toArray, List.set_cons_zero, List.set_cons_succ]
    refine wpAnyH_ready (rs := [7]) (by kernel_rfl) (by simp) ?_
    refine consL 7 rfl (fun K hK => ?_) AllReadyH.nil
    rw [if_pos (by rfl)]; go_simp; refine (bclone_c _ _ hS.inw _ HB.out).mono ?_; rintro e' w11 ⟨q11, c11, news11, rfl, hc11, hk11⟩; replace hS := hS.callOwn hk11; clear hk11; go_wp2_with fail
    refine hK.out _ _ (by first | exact hS.sx0 | exact Sx.le (by assumption) hS.sx0) (fun hHeld => ?_)
    clear hK K
    try simp only [Act.put, List.setIfInBounds_toArray, List.set_cons_zero, List.set_cons_succ]
    focus (refine takeL 8 (v := ?_) rfl (by kernel_rfl) (by kernel_rfl) (by kernel_rfl) (fun _ _ _ h => h) (by assumption) (by first | rfl | (go_simp <;> fail)) ?_ ?_; rotate_left; focus (intro w hSw; clear hSw; go_simp; try with_reducible rfl))
    try simp only [Act.put, List.setIfInBounds_toArray, List.set_cons_zero, List.set_cons_succ]
    refine wpAnyH_ready (rs := [9]) (by kernel_rfl) (by simp) ?_
    refine consL 9 rfl (fun K hK => ?_) AllReadyH.nil
    (with_reducible apply s_lit el_wr hS (cs := [.int .i64 k, .slice q11 b.length c11])); (· decide); (· decide); (· kernel_rfl); intro w13 b13 hS1; replace hS := hS1; clear hS1
    refine hK.out _ _ (by first | exact hS.sx0 | exact Sx.le (by assumption) hS.sx0) (fun hHeld => ?_)
    clear hK K
    try simp only [Act.put, List.setIfInBounds_toArray, List.set_cons_zero, List.set_cons_succ]
    refine wpAnyH_ready (rs := [10]) (by kernel_rfl) (by simp) ?_
    refine consL 10 rfl (fun K hK => ?_) AllReadyH.nil
    (with_reducible apply s_appendB el_wr hS (by decide)); (· exact rfl); (· (repeat (first | exact RowAt.head | apply RowAt.tail))); (· exact rfl); (· (repeat (first | exact List.Mem.head _ | apply List.Mem.tail))); (· rfl); (· simp [Value.oneCell']); (· have := HW.out; omega); intro w14 q14 c14 hS1; replace hS := hS1; clear hS1
    refine hK.out _ _ (by first | exact hS.sx0 | exact Sx.le (by assumption) hS.sx0) (fun hHeld => ?_)
    clear hK K
    try simp only [Act.put, List.setIfInBounds_toArray, List.set_cons_zero, List.set_cons_succ]
    focus (refine takeL 11 (v := ?_) rfl (by kernel_rfl) (by kernel_rfl) (by kernel_rfl) (fun _ _ _ h => h) (by assumption) (by first | rfl | (go_simp <;> fail)) ?_ ?_; rotate_left; focus (intro w hSw; clear hSw; go_simp; try with_reducible rfl))
    try simp only [Act.put, List.setIfInBounds_toArray, List.set_cons_zero, List.set_cons_succ]
    focus (refine takeL 12 (v := ?_) rfl (by kernel_rfl) (by kernel_rfl) (by kernel_rfl) (fun _ _ _ h => h) (by assumption) (by first | rfl | (go_simp <;> fail)) ?_ ?_; rotate_left; focus (intro w hSw; clear hSw; go_simp; try with_reducible rfl))
    try simp only [Act.put, List.setIfInBounds_toArray, List.set_cons_zero, List.set_cons_succ]
    refine wpAnyH_ready (rs := [13]) (by kernel_rfl) (by simp) ?_
    refine consL 13 rfl (fun K hK => ?_) AllReadyH.nil
    (with_reducible apply s_store hS); (· exact ⟨_, Try.underlying42, rfl, by kernel_rfl⟩); (· exact rfl); (· (first | (go_simp; done) | (go_simp; with_reducible rfl))); (· (first | rfl | assumption | (simp [Value.oneCell']; done))); (· (repeat (first | exact List.Mem.head _ | apply List.Mem.tail))); (· (repeat (first | exact SetsL.stop | apply SetsL.put | apply SetsL.skip))); (· (repeat (first | exact UpdB.head | apply UpdB.tail))); intro ws hS1; replace hS := hS1; clear hS1
    refine hK.out _ _ (by first | exact hS.sx0 | exact Sx.le (by assumption) hS.sx0) (fun hHeld => ?_)
    clear hK K
    try simp only [Act.put, List.setIfInBounds_toArray, List.set_cons_zero, List.set_cons_succ]
    refine wpAnyH_done (by kernel_rfl) ?_ _
    refine NoPanic.normal ?_
  all_goals
    go_wp2_with fail
    go_end0
    obtain ⟨m7, hS7, hle7, hrd⟩ := (hS.front (x := .row 5 _ (.slice q11 _ _) _ _) (by (repeat (first | exact Out.head | apply Out.tail)))).settleRow (L := u8L) 0 rfl hc11 (by obtain ⟨_, _, e, _, _, h3, _⟩ := HB.out; exact h3)
    have hlen : d.wet.length + 1 = (d.wet ++ [(⟨k, b⟩ : Wr)]).length := by simp
    rw [hlen] at hS7
    obtain ⟨m8, hS8, hle8, hrd8⟩ := (hS7.front (x := .row 102 _ _ _ _) (by (repeat (first | exact Out.head | apply Out.tail)))).settleRow (L := wrL) (xs := d.wet ++ [⟨k, b⟩]) 0 rfl ((HC.out.mono hle7).snoc (wrL_mk (x := ⟨k, b⟩) HIK.out hrd)) (by have := HW.out; simp [wrL, Lay.by]; omega)
    replace hS8 := (hS8.forget (x := .box b13 _) (by (repeat (first | exact Out.head | apply Out.tail)))).front (x := .box T _) (by (repeat (first | exact Out.head | apply Out.tail)))
    exact ⟨rfl, _, m8, hrd8, rfl, hS8⟩
set_option maxRecDepth 100000 in
set_option maxHeartbeats 4000000 in
theorem write_c (m : Mem) (w : World) (hm : m.In w) (cs : List Value) (d : Dk) (h : dkL.rd m cs d) (k : Int) (hik : InK .i64 k) (vb : Value) (b : List Int) (hb : bytesL.rd m [vb] b) :
    Calls Try.prog 35 #[.agg cs.toArray, .int .i64 k, vb] w (RetDE w m (writeD d k b) (writeE d k b)) := by
  have HH := Lib.hid h
  have HO := Lib.hid (octets_of h)
  have HB := Lib.hid hb
  obtain ⟨v0, v1, rfl, h0, h1, _⟩ := dkL_open h
  obtain ⟨p0, c0, rfl, _⟩ := Lay.list_open h0
  obtain ⟨p1, c1, rfl, b1, b2, _⟩ := Lay.list_open h1
  obtain ⟨pb, cb, rfl, e1, e2, _⟩ := Lay.list_open hb
  have hS := St.start hm
  have HIK := Lib.hid hik
  simp only [maxLen] at b2 e2
  clear h h0 h1 hb hik
  have ec := enters_of Try.func72 (by kernel_rfl) rfl
  have ways : (aliveE d = 0 ∧ checkOK d ∧ d.dead = false) ∨ (aliveE d = 1 ∧ ¬ checkOK d ∧ True) ∨ (aliveE d = 11 ∧ checkOK d ∧ d.dead = true) := by
    rcases checkE_cases d with ⟨_, h⟩ | ⟨_, h⟩
    · cases hd : d.dead
      · exact .inl ⟨(alive_of hd).1 h, h, rfl⟩
      · exact .inr (.inr ⟨(alive_of hd).1 h, h, rfl⟩)
    · exact .inr (.inl ⟨(alive_of rfl).2 h, h, trivial⟩)
  rcases ways with ⟨hA, hok, hdd⟩ | ⟨hA, hok, hdd⟩ | ⟨hA, hok, hdd⟩
  all_goals
      have HK := Lib.hid hok
      have HD := Lib.hid hdd
      have HA := Lib.hid hA
      clear hok hA hdd
      obtain ⟨F, hF⟩ : ∃ F, F = farD d k := ⟨_, rfl⟩
      have HF := Lib.hid hF
      cases F
      all_goals
        clear hF
        go_enter Try.func35, Try.ntmps35
        go_wp2_with (first 
    | ((with_reducible apply l_box (ty := 44) (y := (.tmp 0)) hS); (· (first | (go_simp; done) | (go_simp; with_reducible rfl))); (· exact rfl); intro w3 b3 hS1; replace hS := hS1; clear hS1)
    | ((with_reducible apply l_box (ty := 3) (y := (.tmp 1)) hS); (· (first | (go_simp; done) | (go_simp; with_reducible rfl))); (· exact rfl); intro w4 b4 hS1; replace hS := hS1; clear hS1)
    | ((with_reducible apply l_box (ty := 22) (y := (.tmp 2)) hS); (· (first | (go_simp; done) | (go_simp; with_reducible rfl))); (· exact rfl); intro w5 b5 hS1; replace hS := hS1; clear hS1)
    | ((with_reducible apply l_alloc (ty := 44) (dst := some 6) hS (.agg #[.slice none 0 0, .slice none 0 0, .int .i64 0, .bool false]) [.slice none 0 0, .slice none 0 0, .int .i64 0, .bool false]); (· kernel_rfl); (· rfl); intro w6 b6 hS1; replace hS := hS1; clear hS1)
    | ((with_reducible apply l_load hS); (· (first | exact Try.underlying3 | exact Try.underlying22 | exact Try.underlying42)); (· exact rfl); (· exact rfl); (· (first | (apply Find.box; (· (repeat (first | exact List.Mem.head _ | apply List.Mem.tail))); rfl) | exact Find.mem (by assumption) | (refine Find.row (by (repeat (first | exact List.Mem.head _ | apply List.Mem.tail))) ?_; assumption))))
    | ((with_reducible apply g_load hS); (· (first | exact Try.underlying3 | exact Try.underlying22 | exact Try.underlying42)); (· exact rfl); (· (first | rfl | (go_simp; done))); (· exact rfl); (· (first | (apply Find.box; (· (repeat (first | exact List.Mem.head _ | apply List.Mem.tail))); rfl) | exact Find.mem (by assumption) | (refine Find.row (by (repeat (first | exact List.Mem.head _ | apply List.Mem.tail))) ?_; assumption))))
    | ((with_reducible apply l_loads hS); (· (first | exact (show ∃ d, Try.prog.underlying 44 = some d ∧ d.isRow = true ∧ (Try.prog.info? 44).map (·.size) = some 4 from ⟨_, Try.underlying44, rfl, by kernel_rfl⟩))); (· exact rfl); (· (first | (apply Finds.box; (· (repeat (first | exact List.Mem.head _ | apply List.Mem.tail))); (· (repeat (first | exact SubL.stop | apply SubL.take | apply SubL.skip))); done) | (refine Finds.mem2 (by assumption) ?_; first | rfl | assumption | (simp; done)) | (apply Finds.row; (· (repeat (first | exact List.Mem.head _ | apply List.Mem.tail))); (· assumption); (· rfl)))))
    | ((with_reducible apply g_loads hS); (· (first | exact (show ∃ d, Try.prog.underlying 44 = some d ∧ d.isRow = true ∧ (Try.prog.info? 44).map (·.size) = some 4 from ⟨_, Try.underlying44, rfl, by kernel_rfl⟩))); (· (first | rfl | (go_simp; done))); (· exact rfl); (· (first | (apply Finds.box; (· (repeat (first | exact List.Mem.head _ | apply List.Mem.tail))); (· (repeat (first | exact SubL.stop | apply SubL.take | apply SubL.skip))); done) | (refine Finds.mem2 (by assumption) ?_; first | rfl | assumption | (simp; done)) | (apply Finds.row; (· (repeat (first | exact List.Mem.head _ | apply List.Mem.tail))); (· assumption); (· rfl)))))
    | ((with_reducible apply l_stores hS); (· (first | exact (show ∃ d, Try.prog.underlying 44 = some d ∧ d.isRow = true ∧ (Try.prog.info? 44).map (·.size) = some 4 from ⟨_, Try.underlying44, rfl, by kernel_rfl⟩))); (· exact rfl); (· exact rfl); (· exact rfl); (· (first | assumption | (simp [Value.oneCell']; done))); (· (repeat (first | exact List.Mem.head _ | apply List.Mem.tail))); (· (repeat (first | exact SetsL.stop | apply SetsL.put | apply SetsL.skip))); (· (repeat (first | exact UpdB.head | apply UpdB.tail))); intro ws hS1; replace hS := hS1; clear hS1)
          | (go_at_call 69; refine (alive_c _ _ hS.inw _ _ HH.out).mono ?_; rintro e' w10 ⟨v10, m5, rfl, rfl, hk⟩; rw [HA.out]; replace hS := hS.call hk; have hle := hk.le; clear hk)
          | (go_at_call 70; refine (far_c _ _ hS.inw _ _ (dkL.mono hle HH.out) k).mono ?_; rintro e' w28 ⟨v28, m6, rfl, rfl, hk⟩; rw [← HF.out]; replace hS := hS.call hk; have hle6 := hle.trans hk.le; clear hk))
        all_goals (try simp only [bne_iff_ne, ne_eq, bne_eq_false_iff_eq, beq_iff_eq, beq_eq_false_iff_ne] at *)
        all_goals first
          | (refine ret_cell_tmp (n := 4) rfl rfl hS (by (repeat (first | exact List.Mem.head _ | apply List.Mem.tail))) (by rfl) dkRow rfl ?_
             have F1 := HF.out
             simp only [farD, eq_comm (a := true), eq_comm (a := false), decide_eq_true_eq, decide_eq_false_iff_not] at F1
             first
             | (have E := we_err (d := d) (k := k) (b := b) (we1 (.inl HK.out)) (by decide); exact close_err E.1 E.2 hS)
             | (have E := we_err (d := d) (k := k) (b := b) (we1 (.inr (by omega))) (by decide); exact close_err E.1 E.2 hS)
             | (have E := we_err (d := d) (k := k) (b := b) (we2 HK.out (by omega) HD.out) (by decide); exact close_err E.1 E.2 hS)
             | (have E := we_err (d := d) (k := k) (b := b) (we3 HK.out (by omega) HD.out (by omega)) (by decide); exact close_err E.1 E.2 hS)
             | (have E := we_err (d := d) (k := k) (b := b) (we4 HK.out (by omega) HD.out (by omega) (by omega)) (by decide); exact close_err E.1 E.2 hS))
          | skip
  have F1 := HF.out
  simp only [farD, eq_comm (a := false), decide_eq_false_iff_not] at F1
  have HL32 : Hid (b.length = 32) := by show _ = _; omega
  have HFF : Hid (0 ≤ k ∧ k < (d.dry.length : Int) / 32) := by show _ ∧ _; omega
  have HW : Hid (d.wet.length < 8192) := by have := HK.out.2.2.2.1; show _ < _; omega
  clear F1
  obtain ⟨m7, hS7, hle7, hb4⟩ := (hS.front (x := .box b4 _) (by (repeat (first | exact Out.head | apply Out.tail)))).settleBox 0 rfl
  simp only [List.eraseIdx_cons_zero] at hS7
  obtain ⟨m8, hS8, hle8, hb5⟩ := (hS7.front (x := .box b5 _) (by (repeat (first | exact Out.head | apply Out.tail)))).settleBox 0 rfl
  simp only [List.eraseIdx_cons_zero] at hS8
  have k4 := hle8 _ _ (hb4 0 _ rfl)
  have k5 := hb5 0 _ rfl
  have hle9 := hle6.trans (hle7.trans hle8)
  clear hS hS7 hb4 hb5
  refine (deed_c _ _ hS8.inw _ _ (dkL.mono hle9 HH.out) HK.out 72 _ ec (writeAct k b) (write1_c _ _ d k b4 b5 pb cb b k4 k5 (bytesL.mono hle9 HB.out) HIK.out HW.out) HO.out.1).mono ?_
  rintro e' w38 ⟨v38, m38, rfl, ⟨cs38, rfl, hr38⟩, hk⟩
  have hS := hS8.call hk
  clear hk hS8
  have HR := Lib.hid hr38
  have hone := dkL.one hr38
  obtain ⟨u0, u1, rfl, _⟩ := dkL_open hr38
  clear hr38 k4 k5
  go_wp2_with (first 
    | ((with_reducible apply l_box (ty := 44) (y := (.tmp 0)) hS); (· (first | (go_simp; done) | (go_simp; with_reducible rfl))); (· exact rfl); intro w3 b3 hS1; replace hS := hS1; clear hS1)
    | ((with_reducible apply l_box (ty := 3) (y := (.tmp 1)) hS); (· (first | (go_simp; done) | (go_simp; with_reducible rfl))); (· exact rfl); intro w4 b4 hS1; replace hS := hS1; clear hS1)
    | ((with_reducible apply l_box (ty := 22) (y := (.tmp 2)) hS); (· (first | (go_simp; done) | (go_simp; with_reducible rfl))); (· exact rfl); intro w5 b5 hS1; replace hS := hS1; clear hS1)
    | ((with_reducible apply l_alloc (ty := 44) (dst := some 6) hS (.agg #[.slice none 0 0, .slice none 0 0, .int .i64 0, .bool false]) [.slice none 0 0, .slice none 0 0, .int .i64 0, .bool false]); (· kernel_rfl); (· rfl); intro w6 b6 hS1; replace hS := hS1; clear hS1)
    | ((with_reducible apply l_load hS); (· (first | exact Try.underlying3 | exact Try.underlying22 | exact Try.underlying42)); (· exact rfl); (· exact rfl); (· (first | (apply Find.box; (· (repeat (first | exact List.Mem.head _ | apply List.Mem.tail))); rfl) | exact Find.mem (by assumption) | (refine Find.row (by (repeat (first | exact List.Mem.head _ | apply List.Mem.tail))) ?_; assumption))))
    | ((with_reducible apply g_load hS); (· (first | exact Try.underlying3 | exact Try.underlying22 | exact Try.underlying42)); (· exact rfl); (· (first | rfl | (go_simp; done))); (· exact rfl); (· (first | (apply Find.box; (· (repeat (first | exact List.Mem.head _ | apply List.Mem.tail))); rfl) | exact Find.mem (by assumption) | (refine Find.row (by (repeat (first | exact List.Mem.head _ | apply List.Mem.tail))) ?_; assumption))))
    | ((with_reducible apply l_loads hS); (· (first | exact (show ∃ d, Try.prog.underlying 44 = some d ∧ d.isRow = true ∧ (Try.prog.info? 44).map (·.size) = some 4 from ⟨_, Try.underlying44, rfl, by kernel_rfl⟩))); (· exact rfl); (· (first | (apply Finds.box; (· (repeat (first | exact List.Mem.head _ | apply List.Mem.tail))); (· (repeat (first | exact SubL.stop | apply SubL.take | apply SubL.skip))); done) | (refine Finds.mem2 (by assumption) ?_; first | rfl | assumption | (simp; done)) | (apply Finds.row; (· (repeat (first | exact List.Mem.head _ | apply List.Mem.tail))); (· assumption); (· rfl)))))
    | ((with_reducible apply g_loads hS); (· (first | exact (show ∃ d, Try.prog.underlying 44 = some d ∧ d.isRow = true ∧ (Try.prog.info? 44).map (·.size) = some 4 from ⟨_, Try.underlying44, rfl, by kernel_rfl⟩))); (· (first | rfl | (go_simp; done))); (· exact rfl); (· (first | (apply Finds.box; (· (repeat (first | exact List.Mem.head _ | apply List.Mem.tail))); (· (repeat (first | exact SubL.stop | apply SubL.take | apply SubL.skip))); done) | (refine Finds.mem2 (by assumption) ?_; first | rfl | assumption | (simp; done)) | (apply Finds.row; (· (repeat (first | exact List.Mem.head _ | apply List.Mem.tail))); (· assumption); (· rfl)))))
    | ((with_reducible apply l_stores hS); (· (first | exact (show ∃ d, Try.prog.underlying 44 = some d ∧ d.isRow = true ∧ (Try.prog.info? 44).map (·.size) = some 4 from ⟨_, Try.underlying44, rfl, by kernel_rfl⟩))); (· exact rfl); (· exact rfl); (· exact rfl); (· (first | assumption | (simp [Value.oneCell']; done))); (· (repeat (first | exact List.Mem.head _ | apply List.Mem.tail))); (· (repeat (first | exact SetsL.stop | apply SetsL.put | apply SetsL.skip))); (· (repeat (first | exact UpdB.head | apply UpdB.tail))); intro ws hS1; replace hS := hS1; clear hS1))
  refine ret_cell_tmp (n := 4) rfl rfl hS (by (repeat (first | exact List.Mem.head _ | apply List.Mem.tail))) (by rfl) dkRow rfl ?_
  have E := we_ok (d := d) (k := k) (b := b) (we5 HK.out HL32.out HD.out HFF.out (by have := HW.out; omega))
  rw [E.1, E.2]
  exact ⟨_, _, rfl, ⟨_, rfl, HR.out⟩, hS.done⟩
end Go.Proofs.Ytnmgiiaejpaeeaa
/- Contracts of package disk over the state of a walk: Lit, New; the reference's New; the law's sector. -/
namespace Go.Proofs.Ytnmgiiaejpaeeaa
set_option linter.unusedVariables false
set_option linter.unusedSimpArgs false
open Go.RowKit Go.Shelf
theorem made_u8 (n : Nat) : (madeCells (Value.int .u8 0).cells (n * 1)).toList = (List.replicate n (0 : Int)).map (.int .u8) := by
  show (madeCells #[Value.int .u8 0] (n * 1)).toList = _
  rw [madeCells_one]; simp
theorem cells_of_ints {k : IntKind} {m : Mem} {xs : List Int} (hk : ∀ x ∈ xs, InK k x) : CellsOf (Lay.int k) m (xs.map (.int k)) xs := by
  refine ⟨xs.map fun x => [.int k x], ?_, by simp, fun i cs x h3 h4 => ?_⟩
  · clear hk
    induction xs with
    | nil => rfl
    | cons x xs ih => simp [ih]
  · simp only [List.getElem?_map, h4, Option.map_some, Option.some.injEq] at h3
    subst h3
    exact ⟨rfl, hk _ (List.mem_of_getElem? h4)⟩
set_option maxRecDepth 100000 in
set_option maxHeartbeats 4000000 in
theorem sector_c (m : Mem) (w : World) (hm : m.In w) (c : Int) (hc : InK .u8 c) :
    Calls Try.prog 36 #[.int .u8 c] w (Ret w m fun v m' => bytesL.rd m' [v] (List.replicate 32 c)) := by
  have hS := St.start hm
  have HC := Lib.hid hc
  clear hc
  go_enter Try.func36, Try.ntmps36
  go_wp2_with (first
    | ((with_reducible apply l_make el_u8 32 hS); (· exact rfl); (· exact rfl); (· rfl); (· rfl); (· decide); (· decide); (· decide); intro w3 b3 hS1; replace hS := hS1; clear hS1)
    | ((with_reducible apply l_store hS); (· (first | exact ⟨_, Try.underlying5, rfl, by kernel_rfl⟩)); (· exact rfl); (· (first | (go_simp; done) | (go_simp; with_reducible rfl))); (· (first | rfl | assumption | (simp [Value.oneCell']; done))); (· (repeat (first | exact List.Mem.head _ | apply List.Mem.tail))); (· (repeat (first | exact SetsL.stop | apply SetsL.put | apply SetsL.skip))); (· (repeat (first | exact UpdB.head | apply UpdB.tail))); intro ws hS1; replace hS := hS1; clear hS1)
    | ((with_reducible apply l_storeR hS); (· (first | exact ⟨_, Try.underlying5, rfl, by kernel_rfl⟩)); (· exact rfl); (· (first | (go_simp; done) | (go_simp; with_reducible rfl))); (· (first | rfl | assumption | (simp [Value.oneCell']; done))); (· (repeat (first | exact RowAt.head | apply RowAt.tail))); (· (first | assumption | omega | (simp; omega))); intro ws hS1; replace hS := hS1; clear hS1))
  simp only [made_u8] at hS
  go_loopw [8] (fun i wr => ∃ k : Nat, k ≤ 32 ∧ i = .int .i64 k ∧ St [] w m wr [.row 5 1 (.slice (some ⟨b3, 0, none⟩) 32 32) 32 ((List.replicate k c ++ List.replicate (32 - k) 0).map (.int .u8))] m) (fun i _ => 32 - (intOf i).toNat)
  case atStart => exact ⟨0, Nat.zero_le _, rfl, hS⟩
  case round =>
    clear hS
    obtain ⟨k, hk, rfl, hS⟩ := hrel
    by_cases hlt : k < 32
    · have hl : k < ((List.replicate k c ++ List.replicate (32 - k) 0).map (Value.int .u8)).length := by simp; omega
      have hset : ((List.replicate k c ++ List.replicate (32 - k) 0).map (Value.int .u8)).set k (.int .u8 c) = (List.replicate (k + 1) c ++ List.replicate (32 - (k + 1)) 0).map (Value.int .u8) := by
        rw [← List.map_set, show 32 - k = (32 - (k + 1)) + 1 by omega, List.replicate_succ (n := 32 - (k + 1)), List.set_append_right _ _ (by simp)]
        simp [List.replicate_succ']
      have HSET := Lib.hid hset
      clear hset
      go_wp2_with (first
    | ((with_reducible apply l_store hS); (· (first | exact ⟨_, Try.underlying5, rfl, by kernel_rfl⟩)); (· exact rfl); (· (first | (go_simp; done) | (go_simp; with_reducible rfl))); (· (first | rfl | assumption | (simp [Value.oneCell']; done))); (· (repeat (first | exact List.Mem.head _ | apply List.Mem.tail))); (· (repeat (first | exact SetsL.stop | apply SetsL.put | apply SetsL.skip))); (· (repeat (first | exact UpdB.head | apply UpdB.tail))); intro ws hS1; replace hS := hS1; clear hS1)
    | ((with_reducible apply l_storeR hS); (· (first | exact ⟨_, Try.underlying5, rfl, by kernel_rfl⟩)); (· exact rfl); (· (first | (go_simp; done) | (go_simp; with_reducible rfl))); (· (first | rfl | assumption | (simp [Value.oneCell']; done))); (· (repeat (first | exact RowAt.head | apply RowAt.tail))); (· (first | assumption | omega | (simp; omega))); intro ws hS1; replace hS := hS1; clear hS1))
      rw [HSET.out] at hS
      go_roundw
      case rel => exact ⟨k + 1, hlt, by go_num, hS⟩
      case measure => simp [intOf]; omega
    · obtain rfl : k = 32 := by omega
      go_wp2_with (first
    | ((with_reducible apply l_store hS); (· (first | exact ⟨_, Try.underlying5, rfl, by kernel_rfl⟩)); (· exact rfl); (· (first | (go_simp; done) | (go_simp; with_reducible rfl))); (· (first | rfl | assumption | (simp [Value.oneCell']; done))); (· (repeat (first | exact List.Mem.head _ | apply List.Mem.tail))); (· (repeat (first | exact SetsL.stop | apply SetsL.put | apply SetsL.skip))); (· (repeat (first | exact UpdB.head | apply UpdB.tail))); intro ws hS1; replace hS := hS1; clear hS1)
    | ((with_reducible apply l_storeR hS); (· (first | exact ⟨_, Try.underlying5, rfl, by kernel_rfl⟩)); (· exact rfl); (· (first | (go_simp; done) | (go_simp; with_reducible rfl))); (· (first | rfl | assumption | (simp [Value.oneCell']; done))); (· (repeat (first | exact RowAt.head | apply RowAt.tail))); (· (first | assumption | omega | (simp; omega))); intro ws hS1; replace hS := hS1; clear hS1))
      go_ret
      rw [show (List.replicate 32 c ++ List.replicate (32 - 32) (0 : Int)) = List.replicate 32 c from List.append_nil _] at hS
      obtain ⟨m7, hS7, _, hrd⟩ := hS.settleRow (L := u8L) (xs := List.replicate 32 c) 0 rfl (cells_of_ints fun x hx => by rw [(List.mem_replicate.1 hx).2]; exact HC.out) (by rw [List.length_replicate]; decide)
      exact ⟨_, m7, rfl, hrd, hS7.done⟩
set_option maxRecDepth 100000 in
set_option maxHeartbeats 4000000 in
theorem new_c (m : Mem) (w : World) (hm : m.In w) (n : Int) : Calls Try.prog 34 #[.int .i64 n] w (RetDE w m (newD n) (newE n)) := by
  have hS := St.start hm
  by_cases h : 1 ≤ n ∧ n ≤ 8192
  · obtain ⟨k, rfl⟩ : ∃ k : Nat, n = k := ⟨n.toNat, by omega⟩
    obtain ⟨h1, h2⟩ := h
    have H1 := Lib.hid (by omega : 1 ≤ k)
    have H2 := Lib.hid (by omega : k ≤ 8192)
    have E := Lib.hid (show newE k = 0 from if_neg (by omega))
    have D := Lib.hid (show newD k = ⟨List.replicate (k * 32) 0, [], -1, false⟩ from by unfold newD; rw [if_neg (by omega)]; simp)
    have hk := H2.out
    go_enter Try.func34, Try.ntmps34
    go_wp2_with (first
    | ((with_reducible apply l_alloc (ty := 44) (dst := some 2) hS (.agg #[.slice none 0 0, .slice none 0 0, .int .i64 0, .bool false]) [.slice none 0 0, .slice none 0 0, .int .i64 0, .bool false]); (· kernel_rfl); (· rfl); intro w2 b2 hS1; replace hS := hS1; clear hS1)
    | ((with_reducible apply l_stores hS); (· (first | exact (show ∃ d, Try.prog.underlying 44 = some d ∧ d.isRow = true ∧ (Try.prog.info? 44).map (·.size) = some 4 from ⟨_, Try.underlying44, rfl, by kernel_rfl⟩))); (· exact rfl); (· exact rfl); (· exact rfl); (· (first | assumption | (simp [Value.oneCell']; done))); (· (repeat (first | exact List.Mem.head _ | apply List.Mem.tail))); (· (repeat (first | exact SetsL.stop | apply SetsL.put | apply SetsL.skip))); (· (repeat (first | exact UpdB.head | apply UpdB.tail))); intro ws hS1; replace hS := hS1; clear hS1)
      | ((with_reducible apply l_make el_u8 (k * 32) hS); (· exact rfl); (· exact rfl); (· omega); (· omega); (· omega); (· omega); (· simp only [maxLen]; omega); intro w13 b13 hS1; replace hS := hS1; clear hS1; simp only [made_u8] at hS))
    refine ret_cell_tmp (n := 4) rfl rfl hS (by (repeat (first | exact List.Mem.head _ | apply List.Mem.tail))) (by rfl) dkRow rfl ?_
    rw [D.out]
    exact close_half E.out rfl rfl (inK64 (by omega) (by omega)) (by simp only [List.length_replicate]; exact hS) (fun x hx => by rw [(List.mem_replicate.1 hx).2]; simp [InK, IntKind.min, IntKind.max, IntKind.signed, IntKind.bits]) (Lay.nil_rd _ _) (by simp; omega)
  · have h' : n < 1 ∨ 8192 < n := by omega
    have E := Lib.hid (show newE n = 1 from if_pos h')
    have D := Lib.hid (show newD n = dk0 from if_pos h')
    rcases h' with h1 | h1
    all_goals
      clear h
      go_enter Try.func34, Try.ntmps34
      go_wp2_with (first
    | ((with_reducible apply l_alloc (ty := 44) (dst := some 2) hS (.agg #[.slice none 0 0, .slice none 0 0, .int .i64 0, .bool false]) [.slice none 0 0, .slice none 0 0, .int .i64 0, .bool false]); (· kernel_rfl); (· rfl); intro w2 b2 hS1; replace hS := hS1; clear hS1)
    | ((with_reducible apply l_stores hS); (· (first | exact (show ∃ d, Try.prog.underlying 44 = some d ∧ d.isRow = true ∧ (Try.prog.info? 44).map (·.size) = some 4 from ⟨_, Try.underlying44, rfl, by kernel_rfl⟩))); (· exact rfl); (· exact rfl); (· exact rfl); (· (first | assumption | (simp [Value.oneCell']; done))); (· (repeat (first | exact List.Mem.head _ | apply List.Mem.tail))); (· (repeat (first | exact SetsL.stop | apply SetsL.put | apply SetsL.skip))); (· (repeat (first | exact UpdB.head | apply UpdB.tail))); intro ws hS1; replace hS := hS1; clear hS1))
      refine ret_cell_tmp (n := 4) rfl rfl hS (by (repeat (first | exact List.Mem.head _ | apply List.Mem.tail))) (by rfl) dkRow rfl ?_
      exact close_err E.out D.out hS
end Go.Proofs.Ytnmgiiaejpaeeaa
/- Contract of disk.Read. -/
namespace Go.Proofs.Ytnmgiiaejpaeeaa
set_option linter.unusedVariables false
set_option linter.unusedSimpArgs false
open Go.RowKit Go.Shelf
attribute [local go_sem] Oper.semAt_some
theorem box_four' (w : World) (a b c d : List Value) (t u v x : TypeId) : BoxOf ((((w.alloc (.cells a.toArray t)).alloc (.cells b.toArray u)).alloc (.cells c.toArray v)).alloc (.cells d.toArray x)) w.heap.size a ∧ BoxOf ((((w.alloc (.cells a.toArray t)).alloc (.cells b.toArray u)).alloc (.cells c.toArray v)).alloc (.cells d.toArray x)) (w.heap.size + 1) b ∧ BoxOf ((((w.alloc (.cells a.toArray t)).alloc (.cells b.toArray u)).alloc (.cells c.toArray v)).alloc (.cells d.toArray x)) (w.heap.size + 2) c ∧ BoxOf ((((w.alloc (.cells a.toArray t)).alloc (.cells b.toArray u)).alloc (.cells c.toArray v)).alloc (.cells d.toArray x)) (w.heap.size + 3) d := by
  have h2 := box_two' w a b t u
  have h3 := BoxOf.new ((w.alloc (.cells a.toArray t)).alloc (.cells b.toArray u)) c v
  have h4 := BoxOf.new (((w.alloc (.cells a.toArray t)).alloc (.cells b.toArray u)).alloc (.cells c.toArray v)) d x
  rw [size_alloc, size_alloc] at h3
  rw [size_alloc, size_alloc, size_alloc] at h4
  exact ⟨(h2.1.alloc _).alloc _, (h2.2.alloc _).alloc _, h3.alloc _, h4⟩
theorem BoxOf.kept {W W' : World} {B T : Nat} {row : Option Nat} {vs : List Value} (h : BoxOf W T vs) (hg : W.grownBy W' row) (hr : ∀ r, row = some r → B ≤ r ∧ ∃ o : Obj, W.heap[r]? = some o ∧ o.isCells = false) : BoxOf W' T vs :=
  h.grownR hg fun e => by
    obtain ⟨_, o, ho, hc⟩ := hr T e.symm
    obtain ⟨t, ht⟩ := h
    rw [ht] at ho
    cases ho
    cases hc
theorem ownRow_kept {W W' : World} {B b n m : Nat} {e : TypeId} {row : Option Nat} {v : Value} {xs : List Value} (h : W.ownsRow b e n v m xs) (hg : W.grownBy W' row) (hr : ∀ r, row = some r → B ≤ r ∧ ∃ o : Obj, W.heap[r]? = some o ∧ o.isCells = false) : W'.ownsRow b e n v m xs := by
  refine h.kept hg ?_
  rcases h.2 with ⟨rfl, _⟩ | ⟨g, cap, cur, rfl, _, hh, _⟩
  · exact .inl rfl
  · refine .inr fun e => ?_
    obtain ⟨_, o, ho, hc⟩ := hr g e.symm
    rw [hh] at ho
    cases ho
    cases hc
theorem keepsFrom_below {B : Nat} {W W' : World} (h : Below W.heap.size W W') : KeepsFrom B W W' :=
  ⟨h.size, fun k o _ hk _ => (h.block k (Array.getElem?_eq_some_iff.1 hk).1).trans hk⟩
theorem Own.setOther {k : IntKind} {e : TypeId} {W : World} {B : Nat} {v : Value} {xs : List Int} (h : Own k e W B v xs) (T : Nat) (u : Value) (hT : T < B) : Own k e (W.setCell ⟨T, 0, none⟩ u) B v xs := by
  refine h.kept (grownBy_setCell' W T u) ?_
  rcases h.2 with ⟨rfl, _⟩ | ⟨g, cap, cur, rfl, hg, _⟩
  · exact .inl rfl
  · exact .inr fun e => by have := Option.some.inj (show some g = some T from e); omega
theorem lastOf_none {k : Int} {l : List Wr} (h : ∀ x ∈ l, x.pos ≠ k) : lastOf k l = none := by
  induction l with
  | nil => rfl
  | cons x l ih =>
    unfold lastOf
    rw [if_neg (h x (by simp)), ih (fun y hy => h y (by simp [hy]))]
theorem lastOf_prefix {k : Int} {l r : List Wr} {b : List Int} (h : lastOf k l = some b) : lastOf k (l ++ r) = some b := by
  induction l with
  | nil => cases h
  | cons x l ih =>
    unfold lastOf at h
    rw [List.cons_append]
    unfold lastOf
    split at h
    · rw [if_pos ‹_›]; exact h
    · rw [if_neg ‹_›]; exact ih h
theorem lastOf_snoc {k : Int} {l : List Wr} {x : Wr} (h : ∀ y ∈ l, y.pos ≠ k) (hx : x.pos = k) : lastOf k (l ++ [x]) = some x.b := by
  induction l with
  | nil => show (if x.pos = k then some x.b else lastOf k []) = some x.b; rw [if_pos hx]
  | cons y l ih =>
    rw [List.cons_append]
    unfold lastOf
    rw [if_neg (h y (by simp)), ih (fun z hz => h z (by simp [hz]))]
set_option maxRecDepth 100000 in
set_option maxHeartbeats 4000000 in
theorem read_any (p : Option Addr) (c : Nat) (q : Option Addr) (e : Nat) (d : Dk) (k : Int) (w : World) (h : DkAt w p c q e d) :
    Calls Try.prog 39 #[dkV p c q e d, .int .i64 k] w fun e' w' => ∃ v, e' = .returned (.tuple #[v, .int .i64 (readE d k)]) ∧ Own .u8 5 w' w.heap.size v (readB d k) ∧ Below w.heap.size w w' := by
  have hW : ∀ O1 O2 O3 O4, Below w.heap.size w ((((w.alloc O1).alloc O2).alloc O3).alloc O4) := fun O1 O2 O3 O4 => (((below_new w O1).alloc (by simp) O2).alloc (by simp; omega) O3).alloc (by simp; omega) O4
  have HW := Lib.hid hW
  have H := Lib.hid h
  clear h hW
  refine (callsIn_wide (n := 3)).1 ?_
  refine callsIn_of_wp_marks Try.func39 rfl trivial ?_ rfl
  simp only [Try.ntmps39, List.size_toArray, List.length_cons, List.length_nil, Nat.reduceAdd, Nat.reduceSub, Array.replicate_succ, Array.replicate_zero, List.push_toArray, List.append_toArray, List.nil_append, List.cons_append]
  gi_wp2
  refine ⟨trivial, (callsIn_wide.2 (alive_any p c q e d _ (H.out.below (HW.out _ _ _ _)))).mono ?_⟩
  rintro e' w2 ⟨rfl, hb2⟩
  have hs : ((((w.alloc (.cells #[.slice p d.dry.length c, .slice q d.wet.length e, .int .i64 d.fuse, .bool d.dead] 44)).alloc (.cells #[.int .i64 k] 3)).alloc (.cells #[.slice none 0 0] 22)).alloc (.cells #[.int .i64 0] 24)).heap.size = w.heap.size + 4 := by simp
  have hbb : Below w.heap.size w w2 := bel2 (HW.out _ _ _ _) hb2
  have hs2 := hb2.size
  rw [hs] at hs2
  have b3 := box_four' w [.slice p d.dry.length c, .slice q d.wet.length e, .int .i64 d.fuse, .bool d.dead] [.int .i64 k] [.slice none 0 0] [.int .i64 0] 44 3 22 24
  have B1 := Lib.hid (b3.1.below hb2)
  have B2 := Lib.hid (b3.2.1.below hb2)
  have B3 := Lib.hid (b3.2.2.1.below hb2)
  have B4 := Lib.hid (b3.2.2.2.below hb2)
  have BB := Lib.hid hbb
  have j3 := B3.out.get 0 _ rfl
  have j4 := B4.out.get 0 _ rfl
  have m3 := j3.1
  have f3 := j3.2
  have m4 := j4.1
  have f4 := j4.2
  clear b3 hbb hb2 hs j3 j4
  have retf : ∀ (W : World) (a : Act) (v0 v1 : Value), BoxOf W (w.heap.size + 2) [v0] → BoxOf W (w.heap.size + 3) [v1] → a.tmps[4]?.getD undef = .pointer (some ⟨w.heap.size + 1 + 1, 0, none⟩) → a.tmps[5]?.getD undef = .pointer (some ⟨w.heap.size + 1 + 1 + 1, 0, none⟩) → (results Try.f39 a.tmps).run Try.prog W = .ok (.tuple #[v0, v1]) W := fun W a v0 v1 h0 h1 ha hb => by
    have c0 := (h0.get 0 _ rfl).1
    have c1 := (h1.get 0 _ rfl).1
    simp [results, Try.results39, ha, hb, asAddr, run_loadVar_one c0 Try.underlying22 rfl, run_loadVar_one c1 Try.underlying24 rfl]
  have j0 := (B1.out.get 0 _ rfl).1
  have j1 := (B1.out.get 1 _ rfl).1
  have j2 := (B1.out.get 2 _ rfl).1
  have j3 := (B1.out.get 3 _ rfl).1
  have jk := (B2.out.get 0 _ rfl).1
  by_cases ha : aliveE d = 0
  · have HA := Lib.hid ha
    rw [ha]
    clear ha
    gi_wp2
    refine ⟨trivial, (callsIn_wide.2 (far_any p c q e d k _ (H.out.below BB.out))).mono ?_⟩
    rintro e' w4 ⟨rfl, hb4⟩
    have B1' := Lib.hid (B1.out.below hb4)
    have B2' := Lib.hid (B2.out.below hb4)
    have B3' := Lib.hid (B3.out.below hb4)
    have B4' := Lib.hid (B4.out.below hb4)
    have BB' := Lib.hid (bel2 BB.out hb4)
    have hs4 := hb4.size
    clear j0 j1 j2 j3 jk m3 m4 f3 f4 B1 B2 B3 B4 BB hb4
    have j0 := (B1'.out.get 0 _ rfl).1
    have j1 := (B1'.out.get 1 _ rfl).1
    have jk := (B2'.out.get 0 _ rfl).1
    have m3 := (B3'.out.get 0 _ rfl).1
    have f3 := (B3'.out.get 0 _ rfl).2
    have m4 := (B4'.out.get 0 _ rfl).1
    have f4 := (B4'.out.get 0 _ rfl).2
    cases hF : farD d k
    · have HF := Lib.hid hF
      clear hF
      gi_wp2
      refine ⟨trivial, (back_in Fence.wide 2 trivial rfl q d.wet.length e _).mono ?_⟩
      rintro e' w5 ⟨rfl, rfl⟩
      gi_wp2
      have hok : checkOK d := by
        have := HA.out
        unfold aliveE at this
        split at this
        · assumption
        · omega
      have HK := Lib.hid hok
      obtain ⟨W0, hW0⟩ : ∃ W0, W0 = w4.alloc (.cells #[.slice q d.wet.length e] 42) := ⟨_, rfl⟩
      rw [← hW0]
      have hWb : Below w4.heap.size w4 W0 := by rw [hW0]; exact below_new w4 _
      have hsz : W0.heap.size = w4.heap.size + 1 := by rw [hW0]; simp
      have hcB : W0.cell? ⟨w4.heap.size, 0, none⟩ = some (.slice q d.wet.length e) := by rw [hW0, cell_of_row _ _ _ _ _ _ (heap_alloc_new w4 _)]; rfl
      have C1 := Lib.hid (B1'.out.below hWb)
      have C2 := Lib.hid (B2'.out.below hWb)
      have C3 := Lib.hid (B3'.out.below hWb)
      have C4 := Lib.hid (B4'.out.below hWb)
      have BW := Lib.hid (bel2 BB'.out hWb)
      have hz := back_stops Fence.wide 2 trivial rfl (by decide) w4.heap.size W0.heap.size q e d.wet hok.2.2.2.1 w W0 H.out.rw (fun x hx => by have := (placed_of_ok hok x hx).2.2; omega) BW.out (by omega) (Nat.le_refl _) BW.out.size hcB
      clear hok j0 j1 jk m3 m4 f3 f4 hW0 hcB
      refine wpIn_rangeFunc_ownH (n := 3) rfl (by decide) rfl trivial (enters_of Try.func95 (by kernel_rfl) rfl) hz belowK_t (belowK_b (Nat.le_refl _)) (Below.refl _ _) (fun _ => rfl)
        (fun pre W => BoxOf W w.heap.size [.slice p d.dry.length c, .slice q d.wet.length e, .int .i64 d.fuse, .bool d.dead] ∧ BoxOf W (w.heap.size + 1) [.int .i64 k] ∧ BoxOf W (w.heap.size + 2) [.slice none 0 0] ∧ BoxOf W (w.heap.size + 3) [.int .i64 0] ∧ Below w.heap.size w W ∧ Hid (∀ x ∈ pre, x.x.pos ≠ k) ∧ W0.heap.size ≤ W.heap.size)
        (fun cd pre W => cd = .ret ∧ ∃ v b, BoxOf W (w.heap.size + 2) [v] ∧ BoxOf W (w.heap.size + 3) [.int .i64 0] ∧ Own .u8 5 W w.heap.size v b ∧ Below w.heap.size w W ∧ Hid (lastOf k (pre.map (·.x)) = some b))
        ?hI ?hIx ⟨C1.out, C2.out, C3.out, C4.out, BW.out, by simp [Hid], Nat.le_refl _⟩
        (fun x a' W => ∃ Bx, W0.heap.size ≤ Bx ∧ BoxOf W Bx [.int .i64 x.x.pos, .slice x.q x.x.b.length x.c] ∧ a' = { tmps := #[dkV p c q e d, .int .i64 k, .pointer (some ⟨w.heap.size, 0, none⟩), .pointer (some ⟨w.heap.size + 1, 0, none⟩), .pointer (some ⟨w.heap.size + 1 + 1, 0, none⟩), .pointer (some ⟨w.heap.size + 1 + 1 + 1, 0, none⟩), .int .i64 0, undef, .pointer (some ⟨Bx, 0, none⟩), .agg #[.slice p d.dry.length c, .slice q d.wet.length e, .int .i64 d.fuse, .bool d.dead], .int .i64 0, .int .i64 0, .bool false, undef, .agg #[.slice p d.dry.length c, .slice q d.wet.length e, .int .i64 d.fuse, .bool d.dead], .int .i64 k, .bool false, .pointer (some ⟨w.heap.size, 1, none⟩), .slice q d.wet.length e, .func (.func 95) #[] #[.pointer (some ⟨w4.heap.size, 0, none⟩)], .int .i64 x.i, .agg #[.int .i64 x.x.pos, .slice x.q x.x.b.length x.c], undef, undef, undef, undef, undef, undef, undef, undef, undef, undef, undef, undef], defers := [] })
        ?hAx ?assign ?body ?done ?stop
      case hI => exact fun s X Y row hs hg hr => ⟨hs.1.kept hg hr, hs.2.1.kept hg hr, hs.2.2.1.kept hg hr, hs.2.2.2.1.kept hg hr, hs.2.2.2.2.1.grown hg (by have := hs.2.2.2.2.1.size; omega) (fun r e => by have := (hr r e).1; have := BW.out.size; omega), hs.2.2.2.2.2.1, Nat.le_trans hs.2.2.2.2.2.2 hg.size⟩
      case hIx =>
        intro cd s X Y row hs hg hr
        obtain ⟨h0, v, b, g1, g2, g3, g4, g5⟩ : cd = Code.ret ∧ ∃ v b, BoxOf X (w.heap.size + 2) [v] ∧ BoxOf X (w.heap.size + 3) [.int .i64 0] ∧ Own .u8 5 X w.heap.size v b ∧ Below w.heap.size w X ∧ Hid (lastOf k (s.map (·.x)) = some b) := hs
        exact ⟨h0, v, b, g1.kept hg hr, g2.kept hg hr, ownRow_kept g3 hg hr, g4.grown hg (by have := g4.size; omega) (fun r e => by have := (hr r e).1; have := BW.out.size; omega), g5⟩
      case hAx =>
        intro x a' s X Y row hs hg hr
        obtain ⟨Bx, g1, g2, g3⟩ := hs
        exact ⟨Bx, g1, g2.kept hg hr, g3⟩
      case assign =>
        rintro l pre x W K ⟨i1, i2, i3, i4, i5, i6, i7⟩ hK
        gi_wp2
        exact hK _ _ ((KeepsOthers.alloc _ _).from _) ((Below.refl _ W).alloc (by omega) _) ⟨i1.alloc _, i2.alloc _, i3.alloc _, i4.alloc _, i5.alloc (by have := i5.size; omega) _, i6, by simp; omega⟩ ⟨W.heap.size, i7, BoxOf.new W [.int .i64 x.x.pos, .slice x.q x.x.b.length x.c] _, rfl⟩
      case body =>
        rintro l pre x a' W hl ⟨r, hr⟩ ⟨i1, i2, i3, i4, i5, i6, i7⟩ ⟨Bx, hBx, bX, rfl⟩ hlt
        have bx0 := (bX.get 0 _ rfl).1
        have bx1 := (bX.get 1 _ rfl).1
        have jk := (i2.get 0 _ rfl).1
        have m3 := (i3.get 0 _ rfl).1
        have f3 := (i3.get 0 _ rfl).2
        have m4 := (i4.get 0 _ rfl).1
        have f4 := (i4.get 0 _ rfl).2
        by_cases hx : x.x.pos = k
        · have hxk := Lib.hid hx
          have e1 : (x.x.pos == k) = true := by rw [hx]; simp
          clear hx m3 m4 f3 f4
          gi_wp2
          refine ⟨trivial, (CallsIn.inRound l (callsIn_wide.2 (clone_rd x.q x.c x.x.b _ (x.rd.below i5) x.hb))).mono ?_⟩
          rintro e' W2 ⟨v, rfl, ho, hb⟩
          obtain ⟨p', c', rfl, _⟩ := ho.rd
          have k1 := i3.below hb
          have k2 := i4.below hb
          have kb := bel2 i5 hb
          have m3 := (k1.get 0 _ rfl).1
          have f3 := (k1.get 0 _ rfl).2
          have m4 := (k2.get 0 _ rfl).1
          have f4 := (k2.get 0 _ rfl).2
          gi_wp2
          have hsW := i5.size
          refine ⟨(keepsFrom_below hb).trans (((KeepsOthers.setCell _ _ _).from _).trans ((KeepsOthers.setCell _ _ _).from _)), rfl, _, x.x.b, (k1.set 0 _).setOther _ _ (by show w.heap.size + 2 ≠ w.heap.size + 3; omega), (k2.setOther _ _ (by show w.heap.size + 3 ≠ w.heap.size + 2; omega)).set 0 _, ?_, (kb.setCell (p := ⟨w.heap.size + 1 + 1, 0, none⟩) (by show w.heap.size ≤ w.heap.size + 1 + 1; omega) _).setCell (p := ⟨w.heap.size + 1 + 1 + 1, 0, none⟩) (by show w.heap.size ≤ w.heap.size + 1 + 1 + 1; omega) _, ?_⟩
          · exact ((ho.setOther _ _ (by show w.heap.size + 1 + 1 < _; omega)).setOther _ _ (by show w.heap.size + 1 + 1 + 1 < _; omega)).base hsW
          · show lastOf k (List.map (·.x) (pre ++ [x])) = _
            rw [List.map_append]
            exact lastOf_snoc (fun y hy => by obtain ⟨z, hz, rfl⟩ := List.mem_map.1 hy; exact i6 z hz) hxk.out
        · have hxk := Lib.hid hx
          have e1 : (x.x.pos == k) = false := by simp [hx]
          clear hx
          gi_wp2
          exact ⟨KeepsFrom.refl _ _, Below.refl _ _, i1, i2, i3, i4, i5, by
            show ∀ y ∈ pre ++ [x], y.x.pos ≠ k
            intro y hy
            rcases List.mem_append.1 hy with h | h
            · exact i6 y h
            · rw [List.mem_singleton.1 h]; exact hxk.out, by omega⟩
      case done =>
        rintro D ys W hD hSs ⟨i1, i2, i3, i4, i5, i6, i7⟩ hK
        have j0 := (i1.get 0 _ rfl).1
        have jk := (i2.get 0 _ rfl).1
        have hok := HK.out
        have hf := HF.out
        have hk2 : (0 : Int) ≤ k ∧ k < ((d.dry.length / 32 : Nat) : Int) := by
          unfold farD at hf
          simp only [decide_eq_false_iff_not] at hf
          omega
        obtain ⟨kn, rfl⟩ : ∃ kn : Nat, k = kn := ⟨k.toNat, by omega⟩
        have hkn : (kn + 1) * 32 ≤ d.dry.length := by omega
        obtain ⟨b, o, rfl, hcells⟩ := H.out.rd (by omega)
        have hc1 := H.out.c1
        have hc2 := H.out.c2
        have Hc := Lib.hid hcells
        have Hok := Lib.hid hok
        clear hcells hok hf
        gi_wp2
        refine ⟨trivial, (callsIn_wide.2 (cut_any b o d.dry.length c kn _ hkn hc1 hc2)).mono ?_⟩
        rintro e' W1 ⟨rfl, rfl⟩
        have hl32 : ((d.dry.take (kn * 32 + 32)).drop (kn * 32)).length = 32 := by simp; omega
        have hcs : ∀ i, i < (d.dry.take (kn * 32 + 32)).length → w.cell? ⟨b, o + i, none⟩ = some (.int .u8 ((d.dry.take (kn * 32 + 32)).getD i 0)) := by
          intro i hi
          have h1 : i < kn * 32 + 32 := by simp at hi; omega
          rw [Hc.out i (by simp at hi; omega)]
          simp only [List.getD, List.getElem?_take_of_lt h1]
        have hcl := clone_rd (some ⟨b, o + kn * 32, none⟩) (c - kn * 32) ((d.dry.take (kn * 32 + 32)).drop (kn * 32)) W ((Rd.part hcs (kn * 32)).below i5) (by rw [hl32]; decide)
        clear hcs
        rw [hl32] at hcl
        gi_wp2
        refine ⟨trivial, (callsIn_wide.2 hcl).mono ?_⟩
        rintro e' W2 ⟨v, rfl, ho, hb⟩
        obtain ⟨p', c', rfl, _⟩ := ho.rd
        rw [hl32] at ho ⊢
        have k1 := i3.below hb
        have k2 := i4.below hb
        have kb := bel2 i5 hb
        have m3 := (k1.get 0 _ rfl).1
        have f3 := (k1.get 0 _ rfl).2
        have m4 := (k2.get 0 _ rfl).1
        have f4 := (k2.get 0 _ rfl).2
        clear hcl hl32
        have hKW : W2.heap[D]? = some (.deferred (some [])) := (hb.block D (Array.getElem?_eq_some_iff.1 hK).1).trans hK
        gi_wp2
        have hKW' : (((W2.setCell ⟨w.heap.size + 1 + 1, 0, none⟩ (.slice p' 32 c')).setCell ⟨w.heap.size + 1 + 1 + 1, 0, none⟩ (.int .i64 0))).heap[D]? = some (.deferred (some [])) := (KeepsOthers.setCell _ _ _).same D _ ((KeepsOthers.setCell _ _ _).same D _ hKW rfl) rfl
        have hsW := i5.size
        refine ⟨by simp, .inl ⟨_, _, rfl, run_takeDeferred hKW', ?_⟩⟩
        have b1 := (k1.set 0 (.slice p' 32 c')).setOther ⟨w.heap.size + 1 + 1 + 1, 0, none⟩ (.int .i64 0) (by show w.heap.size + 2 ≠ w.heap.size + 3; omega)
        have b2 := (k2.setOther ⟨w.heap.size + 1 + 1, 0, none⟩ (.slice p' 32 c') (by show w.heap.size + 3 ≠ w.heap.size + 2; omega)).set 0 (.int .i64 0)
        have b3 := ((ho.setOther (w.heap.size + 1 + 1) (.slice p' 32 c') (by omega)).setOther (w.heap.size + 1 + 1 + 1) (.int .i64 0) (by omega)).base hsW
        have b4 := (kb.setCell (p := ⟨w.heap.size + 1 + 1, 0, none⟩) (by show w.heap.size ≤ w.heap.size + 1 + 1; omega) (.slice p' 32 c')).setCell (p := ⟨w.heap.size + 1 + 1 + 1, 0, none⟩) (by show w.heap.size ≤ w.heap.size + 1 + 1 + 1; omega) (.int .i64 0)
        have hr : ∀ r, some D = some r → W0.heap.size ≤ r ∧ ∃ o : Obj, ((W2.setCell ⟨w.heap.size + 1 + 1, 0, none⟩ (.slice p' 32 c')).setCell ⟨w.heap.size + 1 + 1 + 1, 0, none⟩ (.int .i64 0)).heap[r]? = some o ∧ o.isCells = false := fun r e => by cases e; exact ⟨by omega, _, hKW', rfl⟩
        have hg := grownBy_putObj' ((W2.setCell ⟨w.heap.size + 1 + 1, 0, none⟩ (.slice p' 32 c')).setCell ⟨w.heap.size + 1 + 1 + 1, 0, none⟩ (.int .i64 0)) D (.deferred none)
        have e1 : readE d kn = 0 := by unfold readE; rw [if_neg (by rw [HA.out]; decide), if_neg (by rw [HF.out]; decide)]
        have e2 : readB d kn = (d.dry.take (kn * 32 + 32)).drop (kn * 32) := by
          unfold readB
          rw [if_neg (by rw [e1]; decide), ← hSs, lastOf_none (fun y hy => by obtain ⟨z, hz, rfl⟩ := List.mem_map.1 hy; exact i6 z hz)]
          rfl
        exact ⟨_, retf _ _ _ (.int .i64 0) (b1.kept hg hr) (b2.kept hg hr) rfl rfl, _, by rw [e1], by rw [e2]; exact ownRow_kept b3 hg hr, b4.trans (belowK_b (w := w) (Nat.le_refl _) _ D _ _ (by omega) hKW' rfl rfl)⟩
      case stop =>
        rintro D cd pre W hD hSp ⟨rfl, v, b, g1, g2, g3, g4, g5⟩ hK
        gi_wp2
        refine ⟨by simp, .inl ⟨_, _, rfl, run_takeDeferred hK, ?_⟩⟩
        have hr : ∀ r, some D = some r → W0.heap.size ≤ r ∧ ∃ o : Obj, W.heap[r]? = some o ∧ o.isCells = false := fun r e => by cases e; exact ⟨by omega, _, hK, rfl⟩
        have hg := grownBy_putObj' W D (.deferred none)
        have e1 : readE d k = 0 := by unfold readE; rw [if_neg (by rw [HA.out]; decide), if_neg (by rw [HF.out]; decide)]
        have e2 : readB d k = b := by
          obtain ⟨t, ht⟩ := hSp
          unfold readB
          rw [if_neg (by rw [e1]; decide), ← ht, lastOf_prefix g5.out]
          rfl
        exact ⟨_, retf _ _ v (.int .i64 0) (g1.kept hg hr) (g2.kept hg hr) rfl rfl, _, by rw [e1], by rw [e2]; exact ownRow_kept g3 hg hr, g4.trans (belowK_b (w := w) (Nat.le_refl _) W D _ _ (by omega) hK rfl rfl)⟩
    · have e1 : readE d k = 5 := by unfold readE; rw [if_neg (by rw [HA.out]; decide), if_pos hF]
      have e2 : readB d k = [] := by unfold readB; rw [if_pos (by rw [e1]; decide)]
      have E1 := Lib.hid e1
      have E2 := Lib.hid e2
      clear hF e1 e2
      gi_wp2
      exact ⟨_, retf _ _ (.slice none 0 0) (.int .i64 5) ((B3'.out.set 0 _).setOther _ _ (by show w.heap.size + 2 ≠ w.heap.size + 3; omega)) ((B4'.out.setOther _ _ (by show w.heap.size + 3 ≠ w.heap.size + 2; omega)).set 0 _) rfl rfl, _, by rw [E1.out], by rw [E2.out]; exact Own.nil _ _ _ _, (BB'.out.setCell (p := ⟨w.heap.size + 1 + 1, 0, none⟩) (by show w.heap.size ≤ w.heap.size + 1 + 1; omega) _).setCell (p := ⟨w.heap.size + 1 + 1 + 1, 0, none⟩) (by show w.heap.size ≤ w.heap.size + 1 + 1 + 1; omega) _⟩
  · have ha' : (aliveE d != 0) = true := by rw [bne_iff_ne]; exact ha
    have e1 : readE d k = aliveE d := if_pos ha
    have e2 : readB d k = [] := by unfold readB; rw [if_pos (by rw [e1]; exact ha)]
    have E1 := Lib.hid e1
    have E2 := Lib.hid e2
    generalize aliveE d = A at *
    clear e1 e2 ha
    gi_wp2
    exact ⟨_, retf _ _ (.slice none 0 0) (.int .i64 A) ((B3.out.set 0 _).setOther _ _ (by show w.heap.size + 2 ≠ w.heap.size + 3; omega)) ((B4.out.setOther _ _ (by show w.heap.size + 3 ≠ w.heap.size + 2; omega)).set 0 _) rfl rfl, _, by rw [E1.out], by rw [E2.out]; exact Own.nil _ _ _ _, (BB.out.setCell (p := ⟨w.heap.size + 1 + 1, 0, none⟩) (by show w.heap.size ≤ w.heap.size + 1 + 1; omega) _).setCell (p := ⟨w.heap.size + 1 + 1 + 1, 0, none⟩) (by show w.heap.size ≤ w.heap.size + 1 + 1 + 1; omega) _⟩
end Go.Proofs.Ytnmgiiaejpaeeaa
/- Contracts over the state of a walk: disk.Read, disk.Lit, the reference's New and SameBytes. -/
namespace Go.Proofs.Ytnmgiiaejpaeeaa
set_option linter.unusedVariables false
set_option linter.unusedSimpArgs false
open Go.RowKit Go.Shelf
theorem readB_inK {d : Dk} (h : (∀ x ∈ d.dry, InK .u8 x) ∧ ∀ y ∈ d.wet, ∀ x ∈ y.b, InK .u8 x) (k : Int) : ∀ x ∈ readB d k, InK .u8 x := by
  intro x hx
  unfold readB at hx
  split at hx
  · simp at hx
  · cases hl : lastOf k d.wet.reverse with
    | none => rw [hl] at hx; exact h.1 x (List.mem_of_mem_take (List.mem_of_mem_drop hx))
    | some b =>
      rw [hl] at hx
      obtain ⟨y, hy, rfl⟩ := lastOf_mem hl
      exact h.2 y (by simpa using hy) x hx
theorem readB_length {d : Dk} (h : d.dry.length ≤ 140737488355328) (h2 : ∀ y ∈ d.wet, y.b.length ≤ 140737488355328) (k : Int) : (readB d k).length ≤ 140737488355328 := by
  unfold readB
  split
  · simp
  · cases hl : lastOf k d.wet.reverse with
    | none => simp; omega
    | some b =>
      obtain ⟨y, hy, rfl⟩ := lastOf_mem hl
      exact h2 y (by simpa using hy)
theorem wet_len {m : Mem} {p : Option Addr} {ws : List Wr} (h : Row wrL m p ws) : ∀ y ∈ ws, y.b.length ≤ 140737488355328 := fun y hy => by
  obtain ⟨i, hi, rfl⟩ := List.getElem_of_mem hy
  obtain ⟨b, o, cs, _, h1, _⟩ := h.get i hi
  obtain ⟨v, rfl, _, hv⟩ := wrL_open h1
  obtain ⟨q, c, _, _, _, k3, _⟩ := Lay.list_open hv
  simpa [Lay.int, kBytes] using k3
theorem read_c (m : Mem) (w : World) (hm : m.In w) (cs : List Value) (d : Dk) (h : dkL.rd m cs d) (k : Int) :
    Calls Try.prog 39 #[.agg cs.toArray, .int .i64 k] w (RetBE w m (readB d k) (readE d k)) := by
  have ho := octets_of h
  obtain ⟨v0, v1, _, h0, h1, _⟩ := dkL_open h
  obtain ⟨_, _, _, _, _, a3, _⟩ := Lay.list_open h0
  obtain ⟨_, _, _, _, _, _, b4⟩ := Lay.list_open h1
  obtain ⟨p, c, q, e, he, hd⟩ := dkL_at h hm
  rw [he]
  refine (read_any p c q e d k w hd).mono ?_
  rintro e' w' ⟨v, rfl, hr, hb⟩
  have hS := (St.start hm).add (.row 5 1 v (readB d k).length ((readB d k).map (.int .u8))) (grownBy_of_below hb) (Own.base (b' := 0) hr (Nat.zero_le _)) (fun bl hbl => by
    rcases hr.2 with ⟨rfl, _⟩ | ⟨g, cap, cur, rfl, hg, _⟩
    · cases hbl
    · cases hbl; exact hg)
  exact bclose_own rfl rfl hS (readB_inK ho k) (readB_length (by simpa [Lay.int, kBytes] using a3) (wet_len b4) k)
set_option maxRecDepth 100000 in
set_option maxHeartbeats 4000000 in
theorem lit_c (m : Mem) (w : World) (hm : m.In w) (cs : List Value) (d : Dk) (h : dkL.rd m cs d) (f : Int) :
    Calls Try.prog 46 #[.agg cs.toArray, .int .i64 f] w (RetDE w m (litD d f) (litE d f)) := by
  have hh := h
  obtain ⟨v0, v1, rfl, h0, h1, _⟩ := dkL_open h
  obtain ⟨p0, c0, rfl, a1, a2, _, a4⟩ := Lay.list_open h0
  obtain ⟨p1, c1, rfl, b1, b2, b3, b4⟩ := Lay.list_open h1
  have hS := St.start hm
  have HH := Lib.hid hh
  have HR := Lib.hid a4.inK
  clear h h0 h1 b3 hh a1 a2 a4 b1 b2 b4
  cases hdd : d.dead
  all_goals
    rw [hdd] at HH
    have HD := Lib.hid hdd
    clear hdd
    rcases checkE_cases d with ⟨hE, hok⟩ | ⟨hE, hok⟩
    all_goals
      have HK := Lib.hid hok
      have HA := Lib.hid (show aliveE d = _ by first | exact (alive_of HD.out).1 hok | exact (alive_of HD.out).2 hok)
      clear hE hok
      go_enter Try.func46, Try.ntmps46
      go_wp2_with (first 
    | ((with_reducible apply l_box (ty := 44) (y := (.tmp 0)) hS); (· (first | (go_simp; done) | (go_simp; with_reducible rfl))); (· exact rfl); intro w2 b2 hS1; replace hS := hS1; clear hS1)
    | ((with_reducible apply l_alloc (ty := 44) (dst := some 4) hS (.agg #[.slice none 0 0, .slice none 0 0, .int .i64 0, .bool false]) [.slice none 0 0, .slice none 0 0, .int .i64 0, .bool false]); (· kernel_rfl); (· rfl); intro w4 b4 hS1; replace hS := hS1; clear hS1)
    | ((with_reducible apply l_loads hS); (· (first | exact (show ∃ d, Try.prog.underlying 44 = some d ∧ d.isRow = true ∧ (Try.prog.info? 44).map (·.size) = some 4 from ⟨_, Try.underlying44, rfl, by kernel_rfl⟩))); (· exact rfl); (· (first | (apply Finds.box; (· (repeat (first | exact List.Mem.head _ | apply List.Mem.tail))); (· (repeat (first | exact SubL.stop | apply SubL.take | apply SubL.skip))); done) | (refine Finds.mem2 (by assumption) ?_; first | rfl | assumption | (simp; done)) | (apply Finds.row; (· (repeat (first | exact List.Mem.head _ | apply List.Mem.tail))); (· assumption); (· rfl)))))
    | ((with_reducible apply g_loads hS); (· (first | exact (show ∃ d, Try.prog.underlying 44 = some d ∧ d.isRow = true ∧ (Try.prog.info? 44).map (·.size) = some 4 from ⟨_, Try.underlying44, rfl, by kernel_rfl⟩))); (· (first | rfl | (go_simp; done))); (· exact rfl); (· (first | (apply Finds.box; (· (repeat (first | exact List.Mem.head _ | apply List.Mem.tail))); (· (repeat (first | exact SubL.stop | apply SubL.take | apply SubL.skip))); done) | (refine Finds.mem2 (by assumption) ?_; first | rfl | assumption | (simp; done)) | (apply Finds.row; (· (repeat (first | exact List.Mem.head _ | apply List.Mem.tail))); (· assumption); (· rfl)))))
    | ((with_reducible apply l_store hS); (· (first | exact ⟨_, Try.underlying3, rfl, by kernel_rfl⟩)); (· exact rfl); (· (first | (go_simp; done) | (go_simp; with_reducible rfl))); (· (first | rfl | assumption | (simp [Value.oneCell']; done))); (· (repeat (first | exact List.Mem.head _ | apply List.Mem.tail))); (· (repeat (first | exact SetsL.stop | apply SetsL.put | apply SetsL.skip))); (· (repeat (first | exact UpdB.head | apply UpdB.tail))); intro ws hS1; replace hS := hS1; clear hS1)
    | ((with_reducible apply l_storeR hS); (· (first | exact ⟨_, Try.underlying3, rfl, by kernel_rfl⟩)); (· exact rfl); (· (first | (go_simp; done) | (go_simp; with_reducible rfl))); (· (first | rfl | assumption | (simp [Value.oneCell']; done))); (· (repeat (first | exact RowAt.head | apply RowAt.tail))); (· (first | assumption | omega | (simp; omega))); intro ws hS1; replace hS := hS1; clear hS1)
    | ((with_reducible apply l_stores hS); (· (first | exact (show ∃ d, Try.prog.underlying 44 = some d ∧ d.isRow = true ∧ (Try.prog.info? 44).map (·.size) = some 4 from ⟨_, Try.underlying44, rfl, by kernel_rfl⟩))); (· exact rfl); (· exact rfl); (· exact rfl); (· (first | assumption | (simp [Value.oneCell']; done))); (· (repeat (first | exact List.Mem.head _ | apply List.Mem.tail))); (· (repeat (first | exact SetsL.stop | apply SetsL.put | apply SetsL.skip))); (· (repeat (first | exact UpdB.head | apply UpdB.tail))); intro ws hS1; replace hS := hS1; clear hS1)
        | (go_at_call 69; refine (alive_c _ _ hS.inw _ _ HH.out).mono ?_; rintro e' w5 ⟨v5, m5, rfl, rfl, hk⟩; rw [HA.out]; simp only [if_true, Bool.false_eq_true, if_false]; replace hS := hS.call hk; have hle := hk.le; clear hk)
        | (go_at_call 77; refine (own_c _ _ hS.inw _ _ (dkL.mono hle HH.out)).mono ?_; rintro e' w6 ⟨vd, vq, cells, m6, rfl, hc, hk⟩; rw [HD.out]; replace hS := hS.callOwn hk; simp only [List.cons_append, List.nil_append] at hS; obtain ⟨qd, cd, rfl⟩ := row_form (hS.row 0 rfl); obtain ⟨qq, cq, rfl⟩ := row_form (hS.row 1 rfl); have HC := Lib.hid hc; clear hc hk))
      all_goals
        refine ret_cell_tmp (n := 4) rfl rfl hS (by (repeat (first | exact List.Mem.head _ | apply List.Mem.tail))) (by rfl) dkRow rfl ?_
        have A := HA.out
        (try simp only [if_true, Bool.false_eq_true, if_false] at A)
        first
        | (have E : litE d f = 1 := by (unfold litE; rw [A]; first | rw [if_pos (by omega)] | rw [if_neg (by omega)])
           exact close_err E (by unfold litD; rw [E]; rfl) hS)
        | (have E : litE d f = 11 := by (unfold litE; rw [A]; first | rw [if_pos (by omega)] | rw [if_neg (by omega)])
           exact close_err E (by unfold litD; rw [E]; rfl) hS)
        | (have E : litE d f = 0 := by (unfold litE; rw [A]; first | rw [if_pos (by omega)] | rw [if_neg (by omega)])
           have D : litD d f = { d with fuse := f } := by unfold litD; rw [if_pos E]
           rw [D]
           exact close_own E rfl HD.out (inK64 (by omega) (by omega)) hS HR.out HC.out (ok_big HK.out).1 (ok_big HK.out).2)
set_option maxRecDepth 100000 in
set_option maxHeartbeats 4000000 in
theorem rnew_c (m : Mem) (w : World) (hm : m.In w) (n : Int) : Calls Try.prog 50 #[.int .i64 n] w (RetDE w m (newD n) (newE n)) := by
  have hS := St.start hm
  by_cases h : 1 ≤ n ∧ n ≤ 8192
  · obtain ⟨k, rfl⟩ : ∃ k : Nat, n = k := ⟨n.toNat, by omega⟩
    obtain ⟨h1, h2⟩ := h
    have H1 := Lib.hid (by omega : 1 ≤ k)
    have H2 := Lib.hid (by omega : k ≤ 8192)
    have E := Lib.hid (show newE k = 0 from if_neg (by omega))
    have D := Lib.hid (show newD k = ⟨List.replicate (k * 32) 0, [], -1, false⟩ from by unfold newD; rw [if_neg (by omega)]; simp)
    have hk := H2.out
    go_enter Try.func50, Try.ntmps50
    go_wp2_with (first
    | ((with_reducible apply l_alloc (ty := 44) (dst := some 2) hS (.agg #[.slice none 0 0, .slice none 0 0, .int .i64 0, .bool false]) [.slice none 0 0, .slice none 0 0, .int .i64 0, .bool false]); (· kernel_rfl); (· rfl); intro w2 b2 hS1; replace hS := hS1; clear hS1)
    | ((with_reducible apply l_stores hS); (· (first | exact (show ∃ d, Try.prog.underlying 44 = some d ∧ d.isRow = true ∧ (Try.prog.info? 44).map (·.size) = some 4 from ⟨_, Try.underlying44, rfl, by kernel_rfl⟩))); (· exact rfl); (· exact rfl); (· exact rfl); (· (first | assumption | (simp [Value.oneCell']; done))); (· (repeat (first | exact List.Mem.head _ | apply List.Mem.tail))); (· (repeat (first | exact SetsL.stop | apply SetsL.put | apply SetsL.skip))); (· (repeat (first | exact UpdB.head | apply UpdB.tail))); intro ws hS1; replace hS := hS1; clear hS1)
      | ((with_reducible apply l_make el_u8 (k * 32) hS); (· exact rfl); (· exact rfl); (· omega); (· omega); (· omega); (· omega); (· simp only [maxLen]; omega); intro w13 b13 hS1; replace hS := hS1; clear hS1; simp only [made_u8] at hS))
    refine ret_cell_tmp (n := 4) rfl rfl hS (by (repeat (first | exact List.Mem.head _ | apply List.Mem.tail))) (by rfl) dkRow rfl ?_
    rw [D.out]
    exact close_half E.out rfl rfl (inK64 (by omega) (by omega)) (by simp only [List.length_replicate]; exact hS) (fun x hx => by rw [(List.mem_replicate.1 hx).2]; simp [InK, IntKind.min, IntKind.max, IntKind.signed, IntKind.bits]) (Lay.nil_rd _ _) (by simp; omega)
  · have h' : n < 1 ∨ 8192 < n := by omega
    have E := Lib.hid (show newE n = 1 from if_pos h')
    have D := Lib.hid (show newD n = dk0 from if_pos h')
    rcases h' with h1 | h1
    all_goals
      clear h
      go_enter Try.func50, Try.ntmps50
      go_wp2_with (first
    | ((with_reducible apply l_alloc (ty := 44) (dst := some 2) hS (.agg #[.slice none 0 0, .slice none 0 0, .int .i64 0, .bool false]) [.slice none 0 0, .slice none 0 0, .int .i64 0, .bool false]); (· kernel_rfl); (· rfl); intro w2 b2 hS1; replace hS := hS1; clear hS1)
    | ((with_reducible apply l_stores hS); (· (first | exact (show ∃ d, Try.prog.underlying 44 = some d ∧ d.isRow = true ∧ (Try.prog.info? 44).map (·.size) = some 4 from ⟨_, Try.underlying44, rfl, by kernel_rfl⟩))); (· exact rfl); (· exact rfl); (· exact rfl); (· (first | assumption | (simp [Value.oneCell']; done))); (· (repeat (first | exact List.Mem.head _ | apply List.Mem.tail))); (· (repeat (first | exact SetsL.stop | apply SetsL.put | apply SetsL.skip))); (· (repeat (first | exact UpdB.head | apply UpdB.tail))); intro ws hS1; replace hS := hS1; clear hS1))
      refine ret_cell_tmp (n := 4) rfl rfl hS (by (repeat (first | exact List.Mem.head _ | apply List.Mem.tail))) (by rfl) dkRow rfl ?_
      exact close_err E.out D.out hS
theorem same_c (m : Mem) (w : World) (hm : m.In w) (va vb : Value) (xs ys : List Int) (ha : bytesL.rd m [va] xs) (hb : bytesL.rd m [vb] ys) :
    Calls Try.prog 32 #[va, vb] w fun e w' => e = .returned (.bool (decide (xs = ys))) ∧ w = w' := by
  obtain ⟨p0, c0, rfl, a1, a2, _, a4⟩ := Lay.list_open ha
  obtain ⟨p1, c1, rfl, b1, b2, b3, b4⟩ := Lay.list_open hb
  exact same_any _ _ _ _ _ _ w (a4.rdInt hm) (b4.rdInt hm) (inK_isB a4.inK) (inK_isB b4.inK)
end Go.Proofs.Ytnmgiiaejpaeeaa
