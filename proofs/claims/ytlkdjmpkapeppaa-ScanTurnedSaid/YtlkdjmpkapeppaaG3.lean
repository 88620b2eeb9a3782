/- Contracts and plain laws that the laws' proofs use, laid together (part 3). -/
import Derived.Test.YtlkdjmpkapeppaaG2
import Derived.Shelf.SlSortCmp.WholeK
import Derived.Shelf.SlSortCmp.NoneTotal
/- slices.SortFunc at hits. -/
namespace Go.Proofs.Ytlkdjmpkapeppaa
set_option linter.unusedVariables false
set_option linter.unusedSimpArgs false
open Go.RowKit Go.Shelf Go.Sort
set_option maxRecDepth 100000 in
set_option maxHeartbeats 2000000 in
theorem or_x (w : World) (b : Nat) (x y : Int) (h0 : w.cell? ⟨b, 0, none⟩ = some (.int .i64 x)) (h1 : w.cell? ⟨b, 1, none⟩ = some (.int .i64 y)) :
    Calls Try.prog 62 #[.slice (some ⟨b, 0, none⟩) 2 2] w fun e w' => e = .returned (.int .i64 (orI x y)) ∧ w' = w := by
  go_enter Try.func62, Try.ntmps62
  go_wp2
  refine wp_loop_rounds 3 ?_
  iterate 3 (all_goals first | (rw [rounds_succ]) | skip); (all_goals go_wp2)
  all_goals (go_ret; exact ⟨by simp_all [orI], rfl⟩)
set_option maxRecDepth 100000 in
set_option maxHeartbeats 2000000 in
theorem order_x (w : World) (x y : Hit) :
    Calls Try.prog 39 #[hitA x, hitA y] w fun e w' => e = .returned (.int .i64 (ordI x y)) ∧ ∃ q os, w' = grow (w.drewN q) os := by
  have hS := St.start (World.mem_in w)
  go_enter Try.func39, Try.ntmps39
  go_wp2_with (first
    | ((with_reducible refine' Wl.out ?_; apply wl_box_x (y := (.tmp 0)) hS); (· exact .mk); clear hS; intro w2 b2 x2 hS)
    | ((with_reducible refine' Wl.out ?_; apply wl_box_x (y := (.tmp 1)) hS); (· exact .mk); clear hS; intro w3 b3 x3 hS))
  have xx := Lib.hid ((x2.trans x3).trans (Ex.drew w3))
  clear x2 x3
  replace hS := hS.drew
  refine startL (S := Sx _ [(b2, _), (b3, _)]) (by kernel_rfl) ((hS.sx0.cons hS (by (repeat constructor))).cons hS (by (repeat constructor))) (fun _ _ _ _ => trivial) (fun hHeld => ?_)
  focus (refine takeN 0 (v := ?_) rfl (by kernel_rfl) ?_ ?_; rotate_left; focus (intro w hSw; clear hSw; go_simp; try with_reducible rfl))
  try simp only [Act.put, nz1, nz2, nz3]
  refine takeN 1 rfl (by kernel_rfl) (yield_load rfl Try.underlying2 rfl rfl (by (first | (apply FindX.box; (· (repeat constructor)); rfl) | exact FindX.mem (by assumption)))) ?_
  try simp only [Act.put, nz1, nz2, nz3]
  focus (refine takeN 2 (v := ?_) rfl (by kernel_rfl) ?_ ?_; rotate_left; focus (intro w hSw; clear hSw; go_simp; try with_reducible rfl))
  try simp only [Act.put, nz1, nz2, nz3]
  refine takeN 3 rfl (by kernel_rfl) (yield_load rfl Try.underlying2 rfl rfl (by (first | (apply FindX.box; (· (repeat constructor)); rfl) | exact FindX.mem (by assumption)))) ?_
  try simp only [Act.put, nz1, nz2, nz3]
  focus (refine takeN 5 (v := ?_) rfl (by kernel_rfl) ?_ ?_; rotate_left; focus (intro w hSw; clear hSw; go_simp; try with_reducible rfl))
  try simp only [Act.put, nz1, nz2, nz3]
  refine takeN 6 rfl (by kernel_rfl) (yield_load rfl Try.underlying2 rfl rfl (by (first | (apply FindX.box; (· (repeat constructor)); rfl) | exact FindX.mem (by assumption)))) ?_
  try simp only [Act.put, nz1, nz2, nz3]
  focus (refine takeN 7 (v := ?_) rfl (by kernel_rfl) ?_ ?_; rotate_left; focus (intro w hSw; clear hSw; go_simp; try with_reducible rfl))
  try simp only [Act.put, nz1, nz2, nz3]
  refine takeN 8 rfl (by kernel_rfl) (yield_load rfl Try.underlying2 rfl rfl (by (first | (apply FindX.box; (· (repeat constructor)); rfl) | exact FindX.mem (by assumption)))) ?_
  try simp only [Act.put, nz1, nz2, nz3]
  refine wpAnyH_ready (rs := [4]) (by kernel_rfl) (by simp) ?_
  refine consL 4 rfl (fun K hK => ?_) AllReadyH.nil
  rw [if_pos (by rfl)]; go_simp; refine (Try.cmp_Compare_int _ _ _).mono ?_; rintro e' w9 ⟨rfl, rfl⟩; go_wp2_with fail
  refine hK.out _ _ (by first | exact ((hS.sx0.cons hS (by (repeat constructor))).cons hS (by (repeat constructor))) | exact Sx.le (by assumption) ((hS.sx0.cons hS (by (repeat constructor))).cons hS (by (repeat constructor)))) (fun hHeld => ?_)
  clear hK K
  try simp only [Act.put, nz1, nz2, nz3]
  refine wpAnyH_ready (rs := [9]) (by kernel_rfl) (by simp) ?_
  refine consL 9 rfl (fun K hK => ?_) AllReadyH.nil
  rw [if_pos (by rfl)]; go_simp; refine (Try.cmp_Compare_int _ _ _).mono ?_; rintro e' w14 ⟨rfl, rfl⟩; go_wp2_with fail
  refine hK.out _ _ (by first | exact ((hS.sx0.cons hS (by (repeat constructor))).cons hS (by (repeat constructor))) | exact Sx.le (by assumption) ((hS.sx0.cons hS (by (repeat constructor))).cons hS (by (repeat constructor)))) (fun hHeld => ?_)
  clear hK K
  try simp only [Act.put, nz1, nz2, nz3]
  refine wpAnyH_ready (rs := [10]) (by kernel_rfl) (by simp) ?_
  refine consL 10 rfl (fun K hK => ?_) AllReadyH.nil
  (with_reducible apply s_lit_x el_int hS (cs := [.int .i64 (Lib.compareInt x.dist y.dist), .int .i64 (Lib.compareInt x.id y.id)])); (· decide); (· decide); (· kernel_rfl); clear hS; intro w15 b15 x15 hS; replace xx := Lib.hid (xx.out.trans x15); clear x15
  refine hK.out _ _ (by first | exact ((hS.sx0.cons hS (by (repeat constructor))).cons hS (by (repeat constructor))) | exact Sx.le (by assumption) ((hS.sx0.cons hS (by (repeat constructor))).cons hS (by (repeat constructor)))) (fun hHeld => ?_)
  clear hK K
  try simp only [Act.put, nz1, nz2, nz3]
  refine wpAnyH_ready (rs := [11]) (by kernel_rfl) (by simp) ?_
  refine consL 11 rfl (fun K hK => ?_) AllReadyH.nil
  rw [if_pos (by rfl)]; go_simp; refine (or_x _ b15 _ _ (World.mem_in _ _ _ (hS.find (.box (by (repeat constructor)) rfl))) (World.mem_in _ _ _ (hS.find (.box (by (repeat constructor)) rfl)))).mono ?_; rintro e' w16 ⟨rfl, rfl⟩; go_wp2_with fail
  refine hK.out _ _ (by first | exact ((hS.sx0.cons hS (by (repeat constructor))).cons hS (by (repeat constructor))) | exact Sx.le (by assumption) ((hS.sx0.cons hS (by (repeat constructor))).cons hS (by (repeat constructor)))) (fun hHeld => ?_)
  clear hK K
  try simp only [Act.put, nz1, nz2, nz3]
  focus (refine takeN 12 (v := ?_) rfl (by kernel_rfl) ?_ ?_; rotate_left; focus (intro w hSw; clear hSw; go_simp; try with_reducible rfl))
  try simp only [Act.put, nz1, nz2, nz3]
  refine wpAnyH_done (by kernel_rfl) ?_ _
  refine NoPanic.normal ?_
  all_goals (go_wp2_with fail; go_ret; exact ⟨rfl, xx.out⟩)
end Go.Proofs.Ytlkdjmpkapeppaa
/- slices.SortFunc at hits of the call's own. -/
namespace Go.Proofs.Ytlkdjmpkapeppaa
set_option linter.unusedVariables false
set_option linter.unusedSimpArgs false
open Go.RowKit Go.Shelf Go.Sort Go.Lib
instance : Inhabited Hit := ⟨hz⟩
theorem ltOf_ord (x y : Hit) : ltOf ordI x y = decide (x.lt y) := by
  unfold ltOf
  exact decide_eq_decide.2 (ordI_lt x y)
theorem swo_hit : SWO (ltOf ordI) where
  irrefl x := by rw [ltOf_ord]; simpa using Hit.irrefl x
  trans x y z h1 h2 := by rw [ltOf_ord] at *; simp at *; exact Hit.trans h1 h2
  ntrans x y z h1 h2 := by rw [ltOf_ord] at *; simp at *; exact Hit.le_trans h2 h1
theorem flat_get (d : Array Hit) (j : Nat) (h : j < d.size * 2) : (cellsH d.toList)[j]? = some (flatK hitC 2 d)[j]! := by
  rw [get_flatK _ _ _ _ h]
  have hi : j / 2 < d.toList.length := by simp; omega
  have e : d[j / 2]! = d.toList.getD (j / 2) hz := by
    have hi' : j / 2 < d.size := by simpa using hi
    rw [getElem!_pos d (j / 2) hi']
    simp [List.getD, hi']
  have hl : j % 2 < (hitC (d[j / 2]!)).length := by simp [hitC]; omega
  have := cellsH_get d.toList (j / 2) hi (j % 2) ((hitC (d[j / 2]!))[j % 2]!) (by
    rw [e]
    rw [getElem!_pos _ _ (by simp [hitC]; omega)]
    exact List.getElem?_eq_getElem _)
  rw [← this]
  congr 1
  omega
theorem holds_hits {w : World} {e : TypeId} {g c n : Nat} {l : List Hit} (h : w.ownsRow 0 e 2 (.slice (some ⟨g, 0, none⟩) n c) n (cellsH l)) (hn : l.length = n) : HoldsK hitC 2 w g 0 l.toArray := by
  intro j hj
  simp at hj
  have h1 := flat_get l.toArray j (by simpa using hj)
  have h2 := h.cells (g := g) rfl j _ h1
  rw [Addr.add_lit, Nat.zero_add] at h2
  rw [Nat.zero_add]
  refine ⟨h2, ?_⟩
  rcases h.2 with ⟨e, _⟩ | ⟨g', cap, cur, e, hb, hg, _⟩
  · cases e
  · cases e; exact frozen_of_row _ _ _ _ _ hg
theorem ownsRow_sorted {w : World} {e : TypeId} {g c n : Nat} {xs : List Value} (h : w.ownsRow 0 e 2 (.slice (some ⟨g, 0, none⟩) n c) n xs) (d : Array Hit) (hd : d.size = n) (k : Nat) (os : Array Obj) :
    (sortWorldK hitC 2 w g 0 k d os).ownsRow 0 e 2 (.slice (some ⟨g, 0, none⟩) n c) n (cellsH d.toList) ∧ w.grownBy (sortWorldK hitC 2 w g 0 k d os) (some g) := by
  rcases h.2 with ⟨e1, _⟩ | ⟨g', cap, cur, e1, hb, hg, h1, h2, h3, h4⟩
  · cases e1
  · cases e1
    have hgl : g < w.heap.size := (Array.getElem?_eq_some_iff.1 hg).1
    have hheap : (sortWorldK hitC 2 w g 0 k d os).heap = w.heap.modify g (onCells (putCells id 0 (flatK hitC 2 d))) ++ os := rfl
    have hhg : (sortWorldK hitC 2 w g 0 k d os).heap[g]? = some (.cells (putCells id 0 (flatK hitC 2 d) cur) e (0, 0)) := by
      rw [hheap, Array.getElem?_append_left (by simpa using hgl), Array.getElem?_modify, if_pos rfl, hg]
      rfl
    have hsz : (flatK hitC 2 d).size = n * 2 := by rw [size_flatK, hd]
    refine ⟨⟨by rw [cellsH_len]; simp [hd], .inr ⟨g, c, _, rfl, hb, hhg, h1, h2, by simpa [putCells] using h3, ?_⟩⟩, ⟨rfl, rfl, rfl, ?_, fun i hi hne => ?_⟩⟩
    · apply List.ext_getElem?
      intro i
      by_cases hi : i < n * 2
      · rw [List.getElem?_take_of_lt hi, flat_get d i (by rw [hd]; exact hi)]
        have hc : i < cur.size := by omega
        simp only [putCells, Array.toList_mapIdx, List.getElem?_mapIdx]
        rw [Array.getElem?_toList, Array.getElem?_eq_getElem hc]
        simp only [Option.map_some]
        rw [if_pos ⟨Nat.zero_le _, by rw [hsz]; omega⟩]
        simp
      · rw [List.getElem?_take_eq_none (by omega), List.getElem?_eq_none (by rw [cellsH_len]; simp [hd]; omega)]
    · rw [hheap]; simp
    · rw [hheap, Array.getElem?_append_left (by simpa using hi), Array.getElem?_modify, if_neg (fun e => hne (by rw [e]))]
theorem perm_sorted {l : List Hit} {d' : Array Hit} (hp : PermIn 0 l.length l.toArray d') (hs : SortedIn (ltOf ordI) 0 l.length d') : d'.toList = srt l ∧ d'.size = l.length := by
  obtain ⟨h1, _, h3⟩ := hp
  have hsz : d'.size = l.length := by simpa using h1
  refine ⟨srt_eq ?_ ?_, hsz⟩
  · refine List.pairwise_iff_getElem.2 fun i j hi hj hij => ?_
    have := hs i j (Nat.zero_le _) hij (by simpa [hsz] using hj)
    rw [ltOf_ord, getElem!_pos d' j (by simpa using hj), getElem!_pos d' i (by simpa using hi)] at this
    simpa using this
  · have h4 : (d'.extract 0 l.length).toList = d'.toList := by simp [hsz, List.take_of_length_le]
    have h5 : (l.toArray.extract 0 l.length).toList = l := by simp
    rw [h4, h5] at h3
    exact h3
theorem ent_order : ∀ args w, (callFunc 39 args).run Try.prog w = .ok (.enter 39 args) w := enters_of Try.func39 (by kernel_rfl) rfl
theorem cmp_hits (blk off size : Nat) (w : World) : CmpLays Try.prog 39 #[] hitC 2 ordI blk off size w := fun m os dk hs x y => order_x _ x y
theorem sort_c {X : List Nat} {w0 w : World} {m0 m : Mem} {q : Option Addr} {c n : Nat} {l : List Hit} (hS : St X w0 m0 w [rowQ q c n (cellsH l)] m) (hn : l.length = n) (hN : n ≤ 100000) :
    Calls Try.prog 60 #[.slice q n c, .func (.func 39) #[] #[]] w fun e w' => e = .returned (.tuple #[]) ∧ St X w0 m0 w' [rowQ q c n (cellsH (srt l))] m := by
  rcases Nat.eq_zero_or_pos n with h0 | h0
  · subst h0
    have : l = [] := List.eq_nil_of_length_eq_zero hn
    subst this
    refine (AnyF.slices_SortFunc_none Try.sortHits q c _ w).mono ?_
    rintro e w' ⟨rfl, rfl⟩
    exact ⟨rfl, hS⟩
  · obtain ⟨g, rfl⟩ := ownsRow_some (hS.row 0 rfl) h0
    have hrow := hS.row 0 rfl
    have hgl : g < w.heap.size := ((hS.has _ List.mem_cons_self).1.lt g rfl)
    have hc := AnyQ.slices_SortFunc (P := Try.prog) Try.sortHits 2 (by intro w; kernel_rfl) (by intro w; kernel_rfl) hitC (fun _ => rfl) (fun x v hv => by simp [hitC] at hv; rcases hv with rfl | rfl <;> rfl) ordI swo_hit 39 #[] g 0 c l.toArray w ent_order (cmp_hits _ _ _ _) (holds_hits hrow hn) hgl (by simp [hn]; omega)
    change Calls Try.prog 60 _ _ _ at hc
    simp only [List.size_toArray, hn] at hc
    refine hc.mono ?_
    rintro e w' ⟨rfl, d', k, os, hp, hs, rfl⟩
    rw [← hn] at hp hs
    obtain ⟨e1, e2⟩ := perm_sorted hp hs
    obtain ⟨o1, o2⟩ := ownsRow_sorted hrow d' (by omega) k os
    rw [e1] at o1
    exact ⟨rfl, hS.set 0 _ _ rfl o2 o1 fun b hb => .inl hb⟩
end Go.Proofs.Ytlkdjmpkapeppaa
/- best.Sorted, Worst. -/
namespace Go.Proofs.Ytlkdjmpkapeppaa
set_option linter.unusedVariables false
set_option linter.unusedSimpArgs false
open Go.RowKit Go.Shelf
/-- A callee knew more. -/
theorem St.less {X : List Nat} {w0 w : World} {M M' m : Mem} {es : List Ent} (h : St X w0 M w es M') (hm : m.Le M) : St X w0 m w es m :=
  ⟨h.kept, h.has, h.apart, fun a v hv => h.know a v (h.le _ _ (hm a v hv)), Mem.Le.refl _, fun a v hv => .inl hv⟩
set_option maxRecDepth 100000 in
set_option maxHeartbeats 4000000 in
theorem values_c (m : Mem) (w : World) (hm : m.In w) (q : Option Addr) (n c : Nat) :
    Calls Try.prog 38 #[.slice q n c] w fun e w' => ∃ b, e = .returned (seqH b) ∧ St [] w m w' [.box b [.slice q n c]] m := by
  have hS := St.start hm
  go_enter Try.func38, Try.ntmps38
  go_wp2_with (first
    | ((with_reducible refine' Wl.out ?_; apply k_box (ty := 24) (y := .tmp 0) hS); (· exact .mk); clear hS; intro w1 b1 hS))
  go_ret
  exact ⟨b1, rfl, hS⟩
abbrev ordV : Value := .func (.func 39) #[] #[]
set_option maxRecDepth 100000 in
set_option maxHeartbeats 4000000 in
theorem sortedFunc_c (m : Mem) (w : World) (hm : m.In w) (Bs : Nat) (q : Option Addr) (c : Nat) (xs : List Hit) (hr : hitL.list.rd m [.slice q xs.length c] xs) (hb : m ⟨Bs, 0, none⟩ = some (.slice q xs.length c)) (hN : xs.length ≤ 100000) :
    Calls Try.prog 37 #[seqH Bs, ordV] w fun e w' => ∃ q' c', e = .returned (.slice q' xs.length c') ∧ St [] w m w' [rowQ q' c' xs.length (cellsH (srt xs))] m := by
  have hS := St.start hm
  have HC := Lib.hid (appendSeq_c m w hm Bs q c xs hr hb)
  clear hr hb
  have HD : Hid (Calls Try.prog 59 #[seqH Bs] w fun e w' => ∃ q' c', e = .returned (.slice q' xs.length c') ∧ St [] w m w' [rowQ q' c' xs.length (cellsH xs)] m) := by
    show Calls _ _ _ _ _
    go_enter Try.func59, Try.ntmps59
    go_wp2_with (first
      | (go_at_call 71; refine HC.out.mono ?_; clear hS; rintro e' w7 ⟨q7, c7, rfl, hS⟩))
    go_ret
    exact ⟨q7, c7, rfl, hS⟩
  clear HC
  go_enter Try.func37, Try.ntmps37
  go_wp2_with (first
    | (go_at_call 59; refine HD.out.mono ?_; clear hS HD; rintro e' w7 ⟨q7, c7, rfl, hS⟩)
    | (go_at_call 60; refine (sort_c hS rfl hN).mono ?_; clear hS; rintro e' w10 ⟨rfl, hS⟩))
  go_ret
  exact ⟨q7, c7, rfl, hS⟩
/-- Hits in order, and why not. -/
def sortH (l : List Hit) (k : Int) : List Hit := if okH l k then srt l else []
set_option maxRecDepth 100000 in
set_option maxHeartbeats 4000000 in
theorem bsorted_c (m : Mem) (w : World) (hm : m.In w) (v : Value) (xs : List Hit) (hr : hitL.list.rd m [v] xs) (K : Int) (hK : InK .i64 K) :
    Calls Try.prog 14 #[v, .int .i64 K] w (OwnHE w m (sortH xs K) (chkE xs K)) := by
  have hS := St.start hm
  have HL := Lib.hid hr
  obtain ⟨q, c, rfl, _, _, _, _⟩ := Lay.list_open hr
  clear hr
  by_cases hok : okH xs K
  · have hc : chkE xs K = 0 := if_pos hok
    have hs : sortH xs K = srt xs := if_pos hok
    have hN : xs.length ≤ 100000 := by have := hok.2.1; have := hok.2.2.1; omega
    have hIn : Hid (HitsIn (srt xs)) := fun x hx => hits_in HL.out x ((srt_perm xs).mem_iff.1 hx)
    rw [hs]
    have hG : ∀ e' w', (∃ q' c', e' = Ending.returned (.slice q' xs.length c') ∧ St [] w m w' [rowQ q' c' xs.length (cellsH (srt xs))] m) → True := fun _ _ _ => trivial
    clear hok hs hG
    have hl : Hid ((srt xs).length = xs.length) := srt_length xs
    go_enter Try.func14, Try.ntmps14
    go_wp2_with (first
      | (go_at_call 13; refine (bcheck_c m _ hS.inw _ xs HL.out K hK).mono ?_; rintro e' w12 ⟨_, m12, rfl, hv12, hk12⟩; replace hS := hS.grow (grownBy_of_below hk12.below); clear hk12; rw [hc] at hv12; subst hv12)
      | (go_at_call 38; refine (values_c m _ hS.inw q xs.length c).mono ?_; rintro e' w14 ⟨b1, rfl, hk14⟩; replace hS := hS.callOwn hk14; clear hk14; simp only [List.append_nil] at hS)
      | (go_at_call 37; refine (sortedFunc_c (World.mem _) _ (World.mem_in _) b1 q c xs (Lay.mono _ hS.inw HL.out) (hS.find (.box (by (repeat constructor)) rfl)) hN).mono ?_; rintro e' w15 ⟨q15, c15, rfl, hk15⟩; replace hS := hS.callOwn (hk15.less hS.inw); clear hk15; simp only [List.cons_append, List.nil_append] at hS))
    go_ret2
    exact ⟨q15, c15, by rw [hl.out, hc]; rfl, hIn.out, by rw [hl.out]; exact hS.drop _ (by simp)⟩
  · have hc : chkE xs K = 1 := if_neg hok
    have hs : sortH xs K = [] := if_neg hok
    rw [hc, hs]
    clear hok hs
    go_enter Try.func14, Try.ntmps14
    go_wp2_with (first
      | (go_at_call 13; refine (bcheck_c m _ hS.inw _ xs HL.out K hK).mono ?_; rintro e' w12 ⟨_, m12, rfl, hv12, hk12⟩; replace hS := hS.grow (grownBy_of_below hk12.below); clear hk12; rw [hc] at hv12; subst hv12))
    go_ret2
    exact ⟨none, 0, rfl, by simp [HitsIn], hS.noHits⟩
section
variable {P : Program} {X : List Nat} {w0 w : World} {m0 m : Mem} {es : List Ent}
theorem ret_cell_tmp2 {fn : Func} {R : Ending → World → Prop} {a : Act} {p u u2 : Tmp} {ty : TypeId} {b n : Nat} {vs : List Value} (h : fn.results = #[.cell p ty, .tmp u, .tmp u2]) (hp : a.tmps.getD p undef = .pointer (some ⟨b, 0, none⟩)) (hS : St X w0 m0 w es m) (hM : Ent.box b vs ∈ es) (hl : vs.length = n)
    (hn : ∃ d, P.underlying ty = some d ∧ d.isRow = true ∧ (P.info? ty).map (·.size) = some n) (hd : a.defers = []) (hR : R (.returned (.tuple #[.agg vs.toArray, a.tmps.getD u undef, a.tmps.getD u2 undef])) w) : bodyPost P fn R .ret a w := by
  obtain ⟨d, h1, h2, h3⟩ := hn
  have hb : BoxIn w b vs := (hS.has _ hM).1
  have hrun := run_loadVar_mid (P := P) w b 0 ty vs d (fun j v hj => by rw [Nat.zero_add]; exact (hb.get j v hj).1) h1 h2 (by rw [hl]; exact h3)
  have hp' : a.tmps[p]?.getD undef = .pointer (some ⟨b, 0, none⟩) := by simpa using hp
  refine bodyPost_ret_by ?_ hd hR
  simp [results, h, hp', asAddr, hrun]
end
/-- The farthest one, whether there are as many as may be, and why not. -/
def wE (l : List Hit) (k : Int) : Int := if okH l k then (if l.length = 0 then 5 else 0) else 1
def wH (l : List Hit) (k : Int) : Hit := if wE l k = 0 then l.getD 0 hz else hz
def wB (l : List Hit) (k : Int) : Bool := if wE l k = 0 then decide ((l.length : Int) = k) else false
theorem inK0 : InK .i64 0 := ⟨by decide, by decide⟩
set_option maxRecDepth 100000 in
set_option maxHeartbeats 4000000 in
theorem bworst_c (m : Mem) (w : World) (hm : m.In w) (v : Value) (xs : List Hit) (hr : hitL.list.rd m [v] xs) (K : Int) (hK : InK .i64 K) :
    Calls Try.prog 18 #[v, .int .i64 K] w (Ret w m fun v _ => v = .tuple #[hitA (wH xs K), .bool (wB xs K), .int .i64 (wE xs K)]) := by
  have hS := St.start hm
  have HL := Lib.hid hr
  obtain ⟨q, c, rfl, _, _, _, hrow⟩ := Lay.list_open hr
  clear hr
  have fin : ∀ E : Int, wE xs K = E → E ≠ 0 → wH xs K = hz ∧ wB xs K = false ∧ wE xs K = E := fun E h1 h2 => ⟨if_neg (by rw [h1]; exact h2), if_neg (by rw [h1]; exact h2), h1⟩
  by_cases hok : okH xs K
  · have hc : chkE xs K = 0 := if_pos hok
    by_cases h0 : xs.length = 0
    · obtain ⟨e1, e2, e3⟩ := fin 5 (by unfold wE; rw [if_pos hok, if_pos h0]) (by decide)
      rw [e1, e2, e3]
      clear e1 e2 e3 fin hrow
      obtain rfl : xs = [] := List.eq_nil_of_length_eq_zero h0
      clear h0
      go_enter Try.func18, Try.ntmps18
      go_wp2_with (first 
    | ((with_reducible refine' Wl.out ?_; apply k_alloc hS); (· exact .mk); clear hS; intro _ _ hS)
    | ((with_reducible refine' Wl.out ?_; apply k_loads hS); (· exact .mk))
    | ((with_reducible refine' Wl.out ?_; apply k_stores hS); (· exact .mk); clear hS; intro ws hS)
        | (go_at_call 13; refine (bcheck_c m _ hS.inw _ [] HL.out K hK).mono ?_; rintro e' w12 ⟨_, m12, rfl, hv12, hk12⟩; replace hS := hS.grow (grownBy_of_below hk12.below); clear hk12; rw [hc] at hv12; subst hv12))
      refine ret_cell_tmp2 (n := 2) (vs := [.int .i64 0, .int .i64 0]) Try.results18 rfl hS (by (repeat constructor)) rfl rowT30 rfl ?_
      exact ⟨_, m, rfl, rfl, hS.done⟩
    · have e0 : wE xs K = 0 := by unfold wE; rw [if_pos hok, if_neg h0]
      have e1 : wH xs K = xs.getD 0 hz := if_pos e0
      have e2 : wB xs K = decide ((xs.length : Int) = K) := if_pos e0
      have h0' : ¬ (xs.length : Int) ≤ 0 := by omega
      obtain ⟨b, o, cs, rfl, hcs, hcell⟩ := hrow.get 0 (by omega)
      obtain ⟨rfl, i1, i2⟩ := hitL_open hcs
      have e3 : xs[0] = xs.getD 0 hz := by simp [List.getD, Nat.pos_of_ne_zero h0]
      rw [e3] at hcell
      have hcx : ∀ j v, [Value.int .i64 (xs.getD 0 hz).dist, .int .i64 (xs.getD 0 hz).id][j]? = some v → m ⟨b, o + j, none⟩ = some v := fun j v hj => by have := hcell j v (by simpa using hj); simpa using this
      rw [e0, e1, e2]
      clear e0 e1 e2 e3 hcell hcs fin hrow
      generalize xs.getD 0 hz = x at *
      go_enter Try.func18, Try.ntmps18
      go_wp2_with (first 
    | ((with_reducible refine' Wl.out ?_; apply k_alloc hS); (· exact .mk); clear hS; intro _ _ hS)
    | ((with_reducible refine' Wl.out ?_; apply k_loads hS); (· exact .mk))
    | ((with_reducible refine' Wl.out ?_; apply k_stores hS); (· exact .mk); clear hS; intro ws hS)
        | (go_at_call 13; refine (bcheck_c m _ hS.inw _ xs HL.out K hK).mono ?_; rintro e' w12 ⟨_, m12, rfl, hv12, hk12⟩; replace hS := hS.grow (grownBy_of_below hk12.below); clear hk12; rw [hc] at hv12; subst hv12))
      refine ret_cell_tmp2 (n := 2) (vs := [.int .i64 x.dist, .int .i64 x.id]) Try.results18 rfl hS (by (repeat constructor)) rfl rowT30 rfl ?_
      exact ⟨_, m, rfl, by simp; rfl, hS.done⟩
  · have hc : chkE xs K = 1 := if_neg hok
    obtain ⟨e1, e2, e3⟩ := fin 1 (by unfold wE; rw [if_neg hok]) (by decide)
    rw [e1, e2, e3]
    clear e1 e2 e3 fin hrow
    go_enter Try.func18, Try.ntmps18
    go_wp2_with (first 
    | ((with_reducible refine' Wl.out ?_; apply k_alloc hS); (· exact .mk); clear hS; intro _ _ hS)
    | ((with_reducible refine' Wl.out ?_; apply k_loads hS); (· exact .mk))
    | ((with_reducible refine' Wl.out ?_; apply k_stores hS); (· exact .mk); clear hS; intro ws hS)
      | (go_at_call 13; refine (bcheck_c m _ hS.inw _ xs HL.out K hK).mono ?_; rintro e' w12 ⟨_, m12, rfl, hv12, hk12⟩; replace hS := hS.grow (grownBy_of_below hk12.below); clear hk12; rw [hc] at hv12; subst hv12))
    refine ret_cell_tmp2 (n := 2) (vs := [.int .i64 0, .int .i64 0]) Try.results18 rfl hS (by (repeat constructor)) rfl rowT30 rfl ?_
    exact ⟨_, m, rfl, rfl, hS.done⟩
end Go.Proofs.Ytlkdjmpkapeppaa
/- slots.directory: its walk. -/
namespace Go.Proofs.Ytlkdjmpkapeppaa
set_option linter.unusedVariables false
set_option linter.unusedSimpArgs false
open Go.RowKit Go.Shelf
set_option maxRecDepth 100000 in
set_option maxHeartbeats 4000000 in
theorem directory_c (m : Mem) (w : World) (hm : m.In w) (cs : List Value) (s : Sl) (h : slL.rd m cs s) :
    Calls Try.prog 67 #[.agg cs.toArray] w (DirR w m s) := by
  have hS := St.start hm
  obtain ⟨q1, c1, q2, c2, rfl, hd, h1, h2⟩ := slL_open h
  obtain ⟨_, _, e1, _, m1, _, r1⟩ := Lay.list_open h1
  obtain ⟨_, _, e2, _, m2, _, r2⟩ := Lay.list_open h2
  cases e1
  cases e2
  have HI := Lib.hid r1
  have HV := Lib.hid r2
  clear h h1 h2 r1 r2
  have hl1 : s.ids.length ≤ 9223372036854775807 := by simp only [maxLen] at m1; omega
  by_cases d1 : ¬ (1 ≤ s.dim ∧ s.dim ≤ 64)
  · have hno : Hid (¬ dirOK s) := fun o => d1 o.1
    have hb : Hid (decide (1 ≤ s.dim ∧ s.dim ≤ 64) = false) := decide_eq_false d1
    clear d1 HI HV
    go_enter Try.func67, Try.ntmps67
    go_wp2_with (first
    | ((with_reducible refine' Wl.out ?_; apply k_box (ty := 48) (y := (.tmp 0)) hS); (· exact .mk); clear hS; intro w1 b1 hS)
    | ((with_reducible refine' Wl.out ?_; apply k_load hS); (· exact .mk))
    | ((with_reducible refine' Wl.out ?_; apply k_loads hS); (· exact .mk))
    | go_skip
    | ((with_reducible refine' Wl.out ?_; apply kg_load hS); iterate 2 (· exact .mk))
    | ((with_reducible refine' Wl.out ?_; apply kg_loads hS); iterate 2 (· exact .mk))
    | ((with_reducible refine' Wl.out ?_; refine' wg_case ?_ ?_) <;> (intro hgW; (try (have hg2 := hgW; simp [go_sem] at hg2)); (first | (exfalso; assumption) | ((with_reducible refine' Wl.out ?_; apply k_no hgW)) | ((with_reducible refine' Wl.out ?_; apply kg_load hS ⟨hgW⟩); (· exact .mk)) | ((with_reducible refine' Wl.out ?_; apply kg_loads hS ⟨hgW⟩); (· exact .mk))); clear hgW))
    | (go_at_call 75; (fail_if_success (clear Mk11)); refine (letB (within_c _ _ hS.inw _ _)).mono ?_; rintro e' w11 ⟨_, m11, rfl, ⟨B11, HB11, rfl⟩, hk⟩; replace hS := hS.call hk; (try replace A0 := Lib.hid (Lay.mono _ hk.le A0.out)); clear hk; obtain rfl : B11 = false := HB11.out.trans hb.out; have Mk11 := True.intro))
    go_ret2
    exact .inr ⟨hno.out, rfl, hS.done.less (Mem.Le.refl _)⟩
  replace d1 := Classical.not_not.1 d1
  by_cases d2 : ¬ (1 ≤ (s.ids.length : Int) ∧ (s.ids.length : Int) ≤ 256)
  · have hno : Hid (¬ dirOK s) := fun o => d2 (by have := o.2.1; omega)
    have hb1 : Hid (decide (1 ≤ s.dim ∧ s.dim ≤ 64) = true) := decide_eq_true d1
    have hb2 : Hid (decide (1 ≤ (s.ids.length : Int) ∧ (s.ids.length : Int) ≤ 256) = false) := decide_eq_false d2
    clear d1 d2 HI HV
    go_enter Try.func67, Try.ntmps67
    go_wp2_with (first
    | ((with_reducible refine' Wl.out ?_; apply k_box (ty := 48) (y := (.tmp 0)) hS); (· exact .mk); clear hS; intro w1 b1 hS)
    | ((with_reducible refine' Wl.out ?_; apply k_load hS); (· exact .mk))
    | ((with_reducible refine' Wl.out ?_; apply k_loads hS); (· exact .mk))
    | go_skip
    | ((with_reducible refine' Wl.out ?_; apply kg_load hS); iterate 2 (· exact .mk))
    | ((with_reducible refine' Wl.out ?_; apply kg_loads hS); iterate 2 (· exact .mk))
    | ((with_reducible refine' Wl.out ?_; refine' wg_case ?_ ?_) <;> (intro hgW; (try (have hg2 := hgW; simp [go_sem] at hg2)); (first | (exfalso; assumption) | ((with_reducible refine' Wl.out ?_; apply k_no hgW)) | ((with_reducible refine' Wl.out ?_; apply kg_load hS ⟨hgW⟩); (· exact .mk)) | ((with_reducible refine' Wl.out ?_; apply kg_loads hS ⟨hgW⟩); (· exact .mk))); clear hgW))
    | (go_at_call 75; (fail_if_success (clear Mk11)); refine (letB (within_c _ _ hS.inw _ _)).mono ?_; rintro e' w11 ⟨_, m11, rfl, ⟨B11, HB11, rfl⟩, hk⟩; replace hS := hS.call hk; (try replace A0 := Lib.hid (Lay.mono _ hk.le A0.out)); clear hk; obtain rfl : B11 = true := HB11.out.trans hb1.out; have Mk11 := True.intro)
    | (go_at_call 75; (fail_if_success (clear Mk17)); refine (letB (within_c _ _ hS.inw _ _)).mono ?_; rintro e' w17 ⟨_, m17, rfl, ⟨B17, HB17, rfl⟩, hk⟩; replace hS := hS.call hk; (try replace A0 := Lib.hid (Lay.mono _ hk.le A0.out)); clear hk; obtain rfl : B17 = false := HB17.out.trans hb2.out; have Mk17 := True.intro))
    go_ret2
    exact .inr ⟨hno.out, rfl, hS.done.less (Mem.Le.refl _)⟩
  replace d2 := Classical.not_not.1 d2
  have hb1 : Hid (decide (1 ≤ s.dim ∧ s.dim ≤ 64) = true) := decide_eq_true d1
  have hb2 : Hid (decide (1 ≤ (s.ids.length : Int) ∧ (s.ids.length : Int) ≤ 256) = true) := decide_eq_true d2
  by_cases d3 : ¬ (s.vecs.length = s.ids.length)
  · have hno : Hid (¬ dirOK s) := fun o => d3 o.2.2.1
    have hne : ((s.vecs.length : Int) != s.ids.length) = true := by simp; omega
    clear d1 d2 d3 HI HV
    go_enter Try.func67, Try.ntmps67
    go_wp2_with (first
    | ((with_reducible refine' Wl.out ?_; apply k_box (ty := 48) (y := (.tmp 0)) hS); (· exact .mk); clear hS; intro w1 b1 hS)
    | ((with_reducible refine' Wl.out ?_; apply k_load hS); (· exact .mk))
    | ((with_reducible refine' Wl.out ?_; apply k_loads hS); (· exact .mk))
    | go_skip
    | ((with_reducible refine' Wl.out ?_; apply kg_load hS); iterate 2 (· exact .mk))
    | ((with_reducible refine' Wl.out ?_; apply kg_loads hS); iterate 2 (· exact .mk))
    | ((with_reducible refine' Wl.out ?_; refine' wg_case ?_ ?_) <;> (intro hgW; (try (have hg2 := hgW; simp [go_sem] at hg2)); (first | (exfalso; assumption) | ((with_reducible refine' Wl.out ?_; apply k_no hgW)) | ((with_reducible refine' Wl.out ?_; apply kg_load hS ⟨hgW⟩); (· exact .mk)) | ((with_reducible refine' Wl.out ?_; apply kg_loads hS ⟨hgW⟩); (· exact .mk))); clear hgW))
    | (go_at_call 75; (fail_if_success (clear Mk11)); refine (letB (within_c _ _ hS.inw _ _)).mono ?_; rintro e' w11 ⟨_, m11, rfl, ⟨B11, HB11, rfl⟩, hk⟩; replace hS := hS.call hk; (try replace A0 := Lib.hid (Lay.mono _ hk.le A0.out)); clear hk; obtain rfl : B11 = true := HB11.out.trans hb1.out; have Mk11 := True.intro)
    | (go_at_call 75; (fail_if_success (clear Mk17)); refine (letB (within_c _ _ hS.inw _ _)).mono ?_; rintro e' w17 ⟨_, m17, rfl, ⟨B17, HB17, rfl⟩, hk⟩; replace hS := hS.call hk; (try replace A0 := Lib.hid (Lay.mono _ hk.le A0.out)); clear hk; obtain rfl : B17 = true := HB17.out.trans hb2.out; have Mk17 := True.intro))
    go_ret2
    exact .inr ⟨hno.out, rfl, hS.done.less (Mem.Le.refl _)⟩
  replace d3 := Classical.not_not.1 d3
  have hyes : Hid ((∀ i, i < s.ids.length → goodAt s i) → dirOK s) := fun h => ⟨d1, by omega, d3, h⟩
  have hno : Hid (∀ i, i < s.ids.length → ¬ goodAt s i → ¬ dirOK s) := fun i hi h o => h (o.2.2.2 i hi)
  have HD3 := Lib.hid d3
  have hne : ((s.vecs.length : Int) != s.ids.length) = false := by simp [d3]
  have hl256 : s.ids.length ≤ 256 := by omega
  clear d1 d2 d3
  go_enter Try.func67, Try.ntmps67
  go_wp2_with (first
    | ((with_reducible refine' Wl.out ?_; apply k_box (ty := 48) (y := (.tmp 0)) hS); (· exact .mk); clear hS; intro w1 b1 hS)
    | ((with_reducible refine' Wl.out ?_; apply k_load hS); (· exact .mk))
    | ((with_reducible refine' Wl.out ?_; apply k_loads hS); (· exact .mk))
    | go_skip
    | ((with_reducible refine' Wl.out ?_; apply kg_load hS); iterate 2 (· exact .mk))
    | ((with_reducible refine' Wl.out ?_; apply kg_loads hS); iterate 2 (· exact .mk))
    | ((with_reducible refine' Wl.out ?_; refine' wg_case ?_ ?_) <;> (intro hgW; (try (have hg2 := hgW; simp [go_sem] at hg2)); (first | (exfalso; assumption) | ((with_reducible refine' Wl.out ?_; apply k_no hgW)) | ((with_reducible refine' Wl.out ?_; apply kg_load hS ⟨hgW⟩); (· exact .mk)) | ((with_reducible refine' Wl.out ?_; apply kg_loads hS ⟨hgW⟩); (· exact .mk))); clear hgW))
    | (go_at_call 75; (fail_if_success (clear Mk11)); refine (letB (within_c _ _ hS.inw _ _)).mono ?_; rintro e' w11 ⟨_, m11, rfl, ⟨B11, HB11, rfl⟩, hk⟩; replace hS := hS.call hk; (try replace A0 := Lib.hid (Lay.mono _ hk.le A0.out)); clear hk; obtain rfl : B11 = true := HB11.out.trans hb1.out; have Mk11 := True.intro)
    | (go_at_call 75; (fail_if_success (clear Mk17)); refine (letB (within_c _ _ hS.inw _ _)).mono ?_; rintro e' w17 ⟨_, m17, rfl, ⟨B17, HB17, rfl⟩, hk⟩; replace hS := hS.call hk; (try replace A0 := Lib.hid (Lay.mono _ hk.le A0.out)); clear hk; obtain rfl : B17 = true := HB17.out.trans hb2.out; have Mk17 := True.intro)
    | ((with_reducible refine' Wl.out ?_; apply wl_makeMapN hS mapT); (· exact rfl); clear hS; intro w32 b32 hS))
  go_loopw [36] (fun vi wr => ∃ (k n : Nat), k ≤ s.ids.length ∧ vi = .int .i64 k ∧ n ≤ k ∧ Hid (∀ i, i < k → goodAt s i) ∧ St [] w m wr [.obj b32 (MapI Try.prog 2 3 .i64 .i64 n (dirF s k)), .box b1 [.int .i64 s.dim, .slice q1 s.ids.length c1, .slice q2 s.vecs.length c2]] m) (fun vi _ => s.ids.length - (intOf vi).toNat)
  case atStart => exact ⟨0, 0, Nat.zero_le _, rfl, Nat.le_refl _, fun i hi => absurd hi (Nat.not_lt_zero _), hS.less (Mem.Le.refl _)⟩
  case round =>
    clear hS
    obtain ⟨k, n, hk, rfl, hn, hall, hS⟩ := hrel
    by_cases hlt : k < s.ids.length
    · obtain ⟨bi, oi, rfl, hcx, hkx⟩ := HI.out.intAt k hlt
      obtain ⟨bv, ov, q, c, rfl, hcv, hrd⟩ := HV.out.listAt k (by rw [HD3.out]; exact hlt)
      have hcx' := hS.le _ _ hcx
      have hcv' := hS.le _ _ hcv
      have A0 := Lib.hid (Lay.mono _ hS.le hrd)
      have HK := Lib.hid hkx
      have hkz : (k : Int) < s.ids.length := by omega
      have hkz2 : (k : Int) < s.vecs.length := by have := HD3.out; omega
      have HSk : Hid (s.ids.getD k 0 = -1 → dirF s (k + 1) = dirF s k) := dirF_skip
      have HPut : Hid (s.ids.getD k 0 ≠ -1 → (fun z => if z = s.ids.getD k 0 then some (k : Int) else dirF s k z) = dirF s (k + 1)) := dirF_put
      have hN := hno.out k hlt
      have hA : goodAt s k → Hid (∀ i, i < k + 1 → goodAt s i) := fun h i hi => by
        by_cases e : i = k
        · subst e; exact h
        · exact hall.out i (by omega)
      have hneg := dirF_neg s k
      have hsl := slot_is s k
      have hlook : Hid ((dirF s k (s.ids.getD k 0)).getD 0 = (dirF s k (s.ids.getD k 0)).getD 0) := rfl
      have hsz : n < maxLen := by simp only [maxLen]; omega
      have hkk : InK .i64 (k : Int) := by simp [InK, IntKind.min, IntKind.max, IntKind.signed, IntKind.bits]; omega
      clear hcx hcv hrd hkx hno hall
      generalize s.vecs.getD k [] = v at *
      generalize s.ids.getD k 0 = x at *
      rcases hsl with ⟨rfl, rfl, hg⟩ | ⟨h0, hmet, hb⟩ | ⟨h0, hmet, his, hb⟩ | ⟨h0, hmet, his, hfit, hb⟩ | ⟨h0, hmet, his, hfit, hg⟩
      · have HA := hA hg
        have hF := Lib.hid (HSk.out rfl)
        clear hA hN hneg HSk HPut hlook hg hkk hsz
        go_wp2_with (first
    | ((with_reducible refine' Wl.out ?_; apply k_box (ty := 48) (y := (.tmp 0)) hS); (· exact .mk); clear hS; intro w1 b1 hS)
    | ((with_reducible refine' Wl.out ?_; apply k_load hS); (· exact .mk))
    | ((with_reducible refine' Wl.out ?_; apply k_loads hS); (· exact .mk))
    | go_skip
    | ((with_reducible refine' Wl.out ?_; apply kg_load hS); iterate 2 (· exact .mk))
    | ((with_reducible refine' Wl.out ?_; apply kg_loads hS); iterate 2 (· exact .mk))
    | ((with_reducible refine' Wl.out ?_; refine' wg_case ?_ ?_) <;> (intro hgW; (try (have hg2 := hgW; simp [go_sem] at hg2)); (first | (exfalso; assumption) | ((with_reducible refine' Wl.out ?_; apply k_no hgW)) | ((with_reducible refine' Wl.out ?_; apply kg_load hS ⟨hgW⟩); (· exact .mk)) | ((with_reducible refine' Wl.out ?_; apply kg_loads hS ⟨hgW⟩); (· exact .mk))); clear hgW)))
        go_roundw
        case rel => exact ⟨k + 1, n, hlt, by go_num, by omega, HA, by rw [hF.out]; exact hS⟩
        case measure => simp [intOf]; omega
      · obtain ⟨V, hV⟩ : ∃ V, (dirF s k x).getD 0 = V := ⟨_, rfl⟩
        have hx : ¬ x = -1 := by rintro rfl; rw [hneg] at hmet; cases hmet
        have HLk : Hid ((dirF s k x).getD 0 = V ∧ (dirF s k x).isSome = true) := ⟨hV, hmet⟩
        have HB := Lib.hid (hN hb)
        clear hA hN hneg HSk HPut hlook hb hmet hV h0 hkk hsz
        go_wp2_with (first
    | ((with_reducible refine' Wl.out ?_; apply k_box (ty := 48) (y := (.tmp 0)) hS); (· exact .mk); clear hS; intro w1 b1 hS)
    | ((with_reducible refine' Wl.out ?_; apply k_load hS); (· exact .mk))
    | ((with_reducible refine' Wl.out ?_; apply k_loads hS); (· exact .mk))
    | go_skip
    | ((with_reducible refine' Wl.out ?_; apply kg_load hS); iterate 2 (· exact .mk))
    | ((with_reducible refine' Wl.out ?_; apply kg_loads hS); iterate 2 (· exact .mk))
    | ((with_reducible refine' Wl.out ?_; refine' wg_case ?_ ?_) <;> (intro hgW; (try (have hg2 := hgW; simp [go_sem] at hg2)); (first | (exfalso; assumption) | ((with_reducible refine' Wl.out ?_; apply k_no hgW)) | ((with_reducible refine' Wl.out ?_; apply kg_load hS ⟨hgW⟩); (· exact .mk)) | ((with_reducible refine' Wl.out ?_; apply kg_loads hS ⟨hgW⟩); (· exact .mk))); clear hgW))
    | ((with_reducible refine' Wl.out ?_; apply wl_lookup2 hS mapT); (· exact rfl); (· (repeat constructor)); (· exact rfl); (· exact HK.out); (· exact HLk.out)))
        replace hS := hS.drew
        have hle := hS.leSelf
        refine startL (S := Sx _ [(b1, _)]) (by kernel_rfl) (hS.sx0.cons hS (by (repeat constructor))) (fun _ _ _ _ => trivial) (fun hHeld => ?_)
        focus (refine takeN 0 (v := ?_) rfl (by kernel_rfl) ?_ ?_; rotate_left; focus (intro w hSw; clear hSw; go_simp; try with_reducible rfl))
        try simp only [Act.put, nz1, nz2, nz3]
        focus (refine takeN 1 (v := ?_) rfl (by kernel_rfl) ?_ ?_; rotate_left; focus (intro w hSw; clear hSw; go_simp; try with_reducible rfl))
        try simp only [Act.put, nz1, nz2, nz3]
        first | (focus (refine takeG 2 (v := ?_) rfl (by kernel_rfl) ?_ ?_ ?_; rotate_left; (focus (first | rfl | (go_simp <;> fail))); (focus (intro w hSw; clear hSw; go_simp; try with_reducible rfl)))) | (refine skipG 2 rfl (by kernel_rfl) ?_ ?_; (focus (first | rfl | (go_simp <;> fail))))
        try simp only [Act.put, nz1, nz2, nz3]
        refine wpAnyH_ready (rs := [3]) (by kernel_rfl) (by simp) ?_
        refine consL 3 rfl (fun K hK => ?_) AllReadyH.nil
        first | (refine ifYes ?_ ?_; (focus rfl); go_simp; refine (letB (is_c _ _ hS.inw _)).mono ?_; rintro e' w61 ⟨_, m61, rfl, ⟨B61, HB61, rfl⟩, hk⟩; replace hS := hS.call hk; (try replace A0 := Lib.hid (Lay.mono _ hk.le A0.out)); replace hle := hle.trans hk.le; clear hk; go_wp2_with fail) | (refine ifNo ?_ ?_; focus (first | exact Bool.false_ne_true | (go_simp <;> fail)))
        refine hK.out _ _ (by first | exact (hS.sx0.cons hS (by (repeat constructor))) | exact Sx.le (by assumption) (hS.sx0.cons hS (by (repeat constructor)))) (fun hHeld => ?_)
        clear hK K
        try simp only [Act.put, nz1, nz2, nz3]
        first | (focus (refine takeG 4 (v := ?_) rfl (by kernel_rfl) ?_ ?_ ?_; rotate_left; (focus (first | rfl | (go_simp <;> fail))); (focus (intro w hSw; clear hSw; go_simp; try with_reducible rfl)))) | (refine skipG 4 rfl (by kernel_rfl) ?_ ?_; (focus (first | rfl | (go_simp <;> fail))))
        try simp only [Act.put, nz1, nz2, nz3]
        focus (refine takeN 5 (v := ?_) rfl (by kernel_rfl) ?_ ?_; rotate_left; focus (intro w hSw; clear hSw; go_simp; try with_reducible rfl))
        try simp only [Act.put, nz1, nz2, nz3]
        focus (refine takeN 6 (v := ?_) rfl (by kernel_rfl) ?_ ?_; rotate_left; focus (intro w hSw; clear hSw; go_simp; try with_reducible rfl))
        try simp only [Act.put, nz1, nz2, nz3]
        first | (focus (refine' takeG 7 rfl (by kernel_rfl) ?_ ?_ ?_; rotate_left; (focus (first | rfl | (go_simp <;> fail))); (focus (intro w hSw; refine' yield_loads rfl rowT48 rfl ?_ w hSw; (first | (apply FindsX.box; (· (repeat constructor)); (· (repeat constructor)); done) | (refine FindsX.mem (by assumption) ?_; first | rfl | assumption | (simp; done))))))) | (refine skipG 7 rfl (by kernel_rfl) ?_ ?_; (focus (first | rfl | (go_simp <;> fail))))
        try simp only [Act.put, nz1, nz2, nz3]
        first | (focus (refine takeG 8 (v := ?_) rfl (by kernel_rfl) ?_ ?_ ?_; rotate_left; (focus (first | rfl | (go_simp <;> fail))); (focus (intro w hSw; clear hSw; go_simp; try with_reducible rfl)))) | (refine skipG 8 rfl (by kernel_rfl) ?_ ?_; (focus (first | rfl | (go_simp <;> fail))))
        try simp only [Act.put, nz1, nz2, nz3]
        first | (focus (refine' takeG 9 rfl (by kernel_rfl) ?_ ?_ ?_; rotate_left; (focus (first | rfl | (go_simp <;> fail))); (focus (intro w hSw; refine' yield_load rfl Try.underlying46 rfl rfl ?_ w hSw; (first | (apply FindX.box; (· (repeat constructor)); rfl) | exact FindX.mem (by assumption)))))) | (refine skipG 9 rfl (by kernel_rfl) ?_ ?_; (focus (first | rfl | (go_simp <;> fail))))
        try simp only [Act.put, nz1, nz2, nz3]
        first | (focus (refine takeG 10 (v := ?_) rfl (by kernel_rfl) ?_ ?_ ?_; rotate_left; (focus (first | rfl | (go_simp <;> fail))); (focus (intro w hSw; clear hSw; go_simp; try with_reducible rfl)))) | (refine skipG 10 rfl (by kernel_rfl) ?_ ?_; (focus (first | rfl | (go_simp <;> fail))))
        try simp only [Act.put, nz1, nz2, nz3]
        first | (focus (refine takeG 11 (v := ?_) rfl (by kernel_rfl) ?_ ?_ ?_; rotate_left; (focus (first | rfl | (go_simp <;> fail))); (focus (intro w hSw; clear hSw; go_simp; try with_reducible rfl)))) | (refine skipG 11 rfl (by kernel_rfl) ?_ ?_; (focus (first | rfl | (go_simp <;> fail))))
        try simp only [Act.put, nz1, nz2, nz3]
        first | (focus (refine' takeG 12 rfl (by kernel_rfl) ?_ ?_ ?_; rotate_left; (focus (first | rfl | (go_simp <;> fail))); (focus (intro w hSw; refine' yield_load rfl Try.underlying50 rfl rfl ?_ w hSw; (first | (apply FindX.box; (· (repeat constructor)); rfl) | exact FindX.mem (by assumption)))))) | (refine skipG 12 rfl (by kernel_rfl) ?_ ?_; (focus (first | rfl | (go_simp <;> fail))))
        try simp only [Act.put, nz1, nz2, nz3]
        refine wpAnyH_ready (rs := [13]) (by kernel_rfl) (by simp) ?_
        refine consL 13 rfl (fun K hK => ?_) AllReadyH.nil
        first | (refine ifYes ?_ ?_; (focus rfl); go_simp; refine (letB (fits_c _ _ hS.inw _ _ _ _ _ (by first | exact A0.out | exact dkL_dry A0.out | exact Lay.nil_rd _ _))).mono ?_; rintro e' w71 ⟨_, m71, rfl, ⟨B71, HB71, rfl⟩, hk⟩; replace hS := hS.call hk; (try replace A0 := Lib.hid (Lay.mono _ hk.le A0.out)); replace hle := hle.trans hk.le; clear hk; go_wp2_with fail) | (refine ifNo ?_ ?_; focus (first | exact Bool.false_ne_true | (go_simp <;> fail)))
        refine hK.out _ _ (by first | exact (hS.sx0.cons hS (by (repeat constructor))) | exact Sx.le (by assumption) (hS.sx0.cons hS (by (repeat constructor)))) (fun hHeld => ?_)
        clear hK K
        try simp only [Act.put, nz1, nz2, nz3]
        first | (focus (refine takeG 14 (v := ?_) rfl (by kernel_rfl) ?_ ?_ ?_; rotate_left; (focus (first | rfl | (go_simp <;> fail))); (focus (intro w hSw; clear hSw; go_simp; try with_reducible rfl)))) | (refine skipG 14 rfl (by kernel_rfl) ?_ ?_; (focus (first | rfl | (go_simp <;> fail))))
        try simp only [Act.put, nz1, nz2, nz3]
        focus (refine takeN 15 (v := ?_) rfl (by kernel_rfl) ?_ ?_; rotate_left; focus (intro w hSw; clear hSw; go_simp; try with_reducible rfl))
        try simp only [Act.put, nz1, nz2, nz3]
        refine wpAnyH_done (by kernel_rfl) ?_ _
        refine NoPanic.normal ?_
        all_goals
          go_wp2_with fail
          go_ret2
          exact .inr ⟨HB.out, rfl, hS.done.less (Mem.Le.refl _)⟩
      · obtain ⟨V, hV⟩ : ∃ V, (dirF s k x).getD 0 = V := ⟨_, rfl⟩
        have HLk : Hid ((dirF s k x).getD 0 = V ∧ (dirF s k x).isSome = false) := ⟨hV, hmet⟩
        have HB := Lib.hid (hN hb)
        have Hq : Hid (decide (0 ≤ x ∧ x ≤ 2147483647) = false) := decide_eq_false his
        by_cases hx : x = -1
        · have hvl : ((v.length : Int) == 0) = false := by
            have : v.length ≠ 0 := fun e => h0 ⟨hx, List.eq_nil_of_length_eq_zero e⟩
            simp; intro e; exact h0 ⟨hx, e⟩
          subst hx
          clear hA hN hneg HSk HPut hlook hb hmet hV h0 his hkk hsz
          go_wp2_with (first
    | ((with_reducible refine' Wl.out ?_; apply k_box (ty := 48) (y := (.tmp 0)) hS); (· exact .mk); clear hS; intro w1 b1 hS)
    | ((with_reducible refine' Wl.out ?_; apply k_load hS); (· exact .mk))
    | ((with_reducible refine' Wl.out ?_; apply k_loads hS); (· exact .mk))
    | go_skip
    | ((with_reducible refine' Wl.out ?_; apply kg_load hS); iterate 2 (· exact .mk))
    | ((with_reducible refine' Wl.out ?_; apply kg_loads hS); iterate 2 (· exact .mk))
    | ((with_reducible refine' Wl.out ?_; refine' wg_case ?_ ?_) <;> (intro hgW; (try (have hg2 := hgW; simp [go_sem] at hg2)); (first | (exfalso; assumption) | ((with_reducible refine' Wl.out ?_; apply k_no hgW)) | ((with_reducible refine' Wl.out ?_; apply kg_load hS ⟨hgW⟩); (· exact .mk)) | ((with_reducible refine' Wl.out ?_; apply kg_loads hS ⟨hgW⟩); (· exact .mk))); clear hgW))
    | ((with_reducible refine' Wl.out ?_; apply wl_lookup2 hS mapT); (· exact rfl); (· (repeat constructor)); (· exact rfl); (· exact HK.out); (· exact HLk.out)))
          replace hS := hS.drew
          have hle := hS.leSelf
          refine startL (S := Sx _ [(b1, _)]) (by kernel_rfl) (hS.sx0.cons hS (by (repeat constructor))) (fun _ _ _ _ => trivial) (fun hHeld => ?_)
          focus (refine takeN 0 (v := ?_) rfl (by kernel_rfl) ?_ ?_; rotate_left; focus (intro w hSw; clear hSw; go_simp; try with_reducible rfl))
          try simp only [Act.put, nz1, nz2, nz3]
          focus (refine takeN 1 (v := ?_) rfl (by kernel_rfl) ?_ ?_; rotate_left; focus (intro w hSw; clear hSw; go_simp; try with_reducible rfl))
          try simp only [Act.put, nz1, nz2, nz3]
          first | (focus (refine takeG 2 (v := ?_) rfl (by kernel_rfl) ?_ ?_ ?_; rotate_left; (focus (first | rfl | (go_simp <;> fail))); (focus (intro w hSw; clear hSw; go_simp; try with_reducible rfl)))) | (refine skipG 2 rfl (by kernel_rfl) ?_ ?_; (focus (first | rfl | (go_simp <;> fail))))
          try simp only [Act.put, nz1, nz2, nz3]
          refine wpAnyH_ready (rs := [3]) (by kernel_rfl) (by simp) ?_
          refine consL 3 rfl (fun K hK => ?_) AllReadyH.nil
          first | (refine ifYes ?_ ?_; (focus rfl); go_simp; refine (letB (is_c _ _ hS.inw _)).mono ?_; rintro e' w61 ⟨_, m61, rfl, ⟨B61, HB61, rfl⟩, hk⟩; replace hS := hS.call hk; (try replace A0 := Lib.hid (Lay.mono _ hk.le A0.out)); replace hle := hle.trans hk.le; clear hk; obtain rfl : B61 = false := HB61.out.trans Hq.out; go_wp2_with fail) | (refine ifNo ?_ ?_; focus (first | exact Bool.false_ne_true | (go_simp <;> fail)))
          refine hK.out _ _ (by first | exact (hS.sx0.cons hS (by (repeat constructor))) | exact Sx.le (by assumption) (hS.sx0.cons hS (by (repeat constructor)))) (fun hHeld => ?_)
          clear hK K
          try simp only [Act.put, nz1, nz2, nz3]
          first | (focus (refine takeG 4 (v := ?_) rfl (by kernel_rfl) ?_ ?_ ?_; rotate_left; (focus (first | rfl | (go_simp <;> fail))); (focus (intro w hSw; clear hSw; go_simp; try with_reducible rfl)))) | (refine skipG 4 rfl (by kernel_rfl) ?_ ?_; (focus (first | rfl | (go_simp <;> fail))))
          try simp only [Act.put, nz1, nz2, nz3]
          focus (refine takeN 5 (v := ?_) rfl (by kernel_rfl) ?_ ?_; rotate_left; focus (intro w hSw; clear hSw; go_simp; try with_reducible rfl))
          try simp only [Act.put, nz1, nz2, nz3]
          focus (refine takeN 6 (v := ?_) rfl (by kernel_rfl) ?_ ?_; rotate_left; focus (intro w hSw; clear hSw; go_simp; try with_reducible rfl))
          try simp only [Act.put, nz1, nz2, nz3]
          first | (focus (refine' takeG 7 rfl (by kernel_rfl) ?_ ?_ ?_; rotate_left; (focus (first | rfl | (go_simp <;> fail))); (focus (intro w hSw; refine' yield_loads rfl rowT48 rfl ?_ w hSw; (first | (apply FindsX.box; (· (repeat constructor)); (· (repeat constructor)); done) | (refine FindsX.mem (by assumption) ?_; first | rfl | assumption | (simp; done))))))) | (refine skipG 7 rfl (by kernel_rfl) ?_ ?_; (focus (first | rfl | (go_simp <;> fail))))
          try simp only [Act.put, nz1, nz2, nz3]
          first | (focus (refine takeG 8 (v := ?_) rfl (by kernel_rfl) ?_ ?_ ?_; rotate_left; (focus (first | rfl | (go_simp <;> fail))); (focus (intro w hSw; clear hSw; go_simp; try with_reducible rfl)))) | (refine skipG 8 rfl (by kernel_rfl) ?_ ?_; (focus (first | rfl | (go_simp <;> fail))))
          try simp only [Act.put, nz1, nz2, nz3]
          first | (focus (refine' takeG 9 rfl (by kernel_rfl) ?_ ?_ ?_; rotate_left; (focus (first | rfl | (go_simp <;> fail))); (focus (intro w hSw; refine' yield_load rfl Try.underlying46 rfl rfl ?_ w hSw; (first | (apply FindX.box; (· (repeat constructor)); rfl) | exact FindX.mem (by assumption)))))) | (refine skipG 9 rfl (by kernel_rfl) ?_ ?_; (focus (first | rfl | (go_simp <;> fail))))
          try simp only [Act.put, nz1, nz2, nz3]
          first | (focus (refine takeG 10 (v := ?_) rfl (by kernel_rfl) ?_ ?_ ?_; rotate_left; (focus (first | rfl | (go_simp <;> fail))); (focus (intro w hSw; clear hSw; go_simp; try with_reducible rfl)))) | (refine skipG 10 rfl (by kernel_rfl) ?_ ?_; (focus (first | rfl | (go_simp <;> fail))))
          try simp only [Act.put, nz1, nz2, nz3]
          first | (focus (refine takeG 11 (v := ?_) rfl (by kernel_rfl) ?_ ?_ ?_; rotate_left; (focus (first | rfl | (go_simp <;> fail))); (focus (intro w hSw; clear hSw; go_simp; try with_reducible rfl)))) | (refine skipG 11 rfl (by kernel_rfl) ?_ ?_; (focus (first | rfl | (go_simp <;> fail))))
          try simp only [Act.put, nz1, nz2, nz3]
          first | (focus (refine' takeG 12 rfl (by kernel_rfl) ?_ ?_ ?_; rotate_left; (focus (first | rfl | (go_simp <;> fail))); (focus (intro w hSw; refine' yield_load rfl Try.underlying50 rfl rfl ?_ w hSw; (first | (apply FindX.box; (· (repeat constructor)); rfl) | exact FindX.mem (by assumption)))))) | (refine skipG 12 rfl (by kernel_rfl) ?_ ?_; (focus (first | rfl | (go_simp <;> fail))))
          try simp only [Act.put, nz1, nz2, nz3]
          refine wpAnyH_ready (rs := [13]) (by kernel_rfl) (by simp) ?_
          refine consL 13 rfl (fun K hK => ?_) AllReadyH.nil
          first | (refine ifYes ?_ ?_; (focus rfl); go_simp; refine (letB (fits_c _ _ hS.inw _ _ _ _ _ (by first | exact A0.out | exact dkL_dry A0.out | exact Lay.nil_rd _ _))).mono ?_; rintro e' w71 ⟨_, m71, rfl, ⟨B71, HB71, rfl⟩, hk⟩; replace hS := hS.call hk; (try replace A0 := Lib.hid (Lay.mono _ hk.le A0.out)); replace hle := hle.trans hk.le; clear hk; go_wp2_with fail) | (refine ifNo ?_ ?_; focus (first | exact Bool.false_ne_true | (go_simp <;> fail)))
          refine hK.out _ _ (by first | exact (hS.sx0.cons hS (by (repeat constructor))) | exact Sx.le (by assumption) (hS.sx0.cons hS (by (repeat constructor)))) (fun hHeld => ?_)
          clear hK K
          try simp only [Act.put, nz1, nz2, nz3]
          first | (focus (refine takeG 14 (v := ?_) rfl (by kernel_rfl) ?_ ?_ ?_; rotate_left; (focus (first | rfl | (go_simp <;> fail))); (focus (intro w hSw; clear hSw; go_simp; try with_reducible rfl)))) | (refine skipG 14 rfl (by kernel_rfl) ?_ ?_; (focus (first | rfl | (go_simp <;> fail))))
          try simp only [Act.put, nz1, nz2, nz3]
          focus (refine takeN 15 (v := ?_) rfl (by kernel_rfl) ?_ ?_; rotate_left; focus (intro w hSw; clear hSw; go_simp; try with_reducible rfl))
          try simp only [Act.put, nz1, nz2, nz3]
          refine wpAnyH_done (by kernel_rfl) ?_ _
          refine NoPanic.normal ?_
          all_goals
            go_wp2_with fail
            go_ret2
            exact .inr ⟨HB.out, rfl, hS.done.less (Mem.Le.refl _)⟩
        · clear hA hN hneg HSk HPut hlook hb hmet hV h0 his hkk hsz
          go_wp2_with (first
    | ((with_reducible refine' Wl.out ?_; apply k_box (ty := 48) (y := (.tmp 0)) hS); (· exact .mk); clear hS; intro w1 b1 hS)
    | ((with_reducible refine' Wl.out ?_; apply k_load hS); (· exact .mk))
    | ((with_reducible refine' Wl.out ?_; apply k_loads hS); (· exact .mk))
    | go_skip
    | ((with_reducible refine' Wl.out ?_; apply kg_load hS); iterate 2 (· exact .mk))
    | ((with_reducible refine' Wl.out ?_; apply kg_loads hS); iterate 2 (· exact .mk))
    | ((with_reducible refine' Wl.out ?_; refine' wg_case ?_ ?_) <;> (intro hgW; (try (have hg2 := hgW; simp [go_sem] at hg2)); (first | (exfalso; assumption) | ((with_reducible refine' Wl.out ?_; apply k_no hgW)) | ((with_reducible refine' Wl.out ?_; apply kg_load hS ⟨hgW⟩); (· exact .mk)) | ((with_reducible refine' Wl.out ?_; apply kg_loads hS ⟨hgW⟩); (· exact .mk))); clear hgW))
    | ((with_reducible refine' Wl.out ?_; apply wl_lookup2 hS mapT); (· exact rfl); (· (repeat constructor)); (· exact rfl); (· exact HK.out); (· exact HLk.out)))
          replace hS := hS.drew
          have hle := hS.leSelf
          refine startL (S := Sx _ [(b1, _)]) (by kernel_rfl) (hS.sx0.cons hS (by (repeat constructor))) (fun _ _ _ _ => trivial) (fun hHeld => ?_)
          focus (refine takeN 0 (v := ?_) rfl (by kernel_rfl) ?_ ?_; rotate_left; focus (intro w hSw; clear hSw; go_simp; try with_reducible rfl))
          try simp only [Act.put, nz1, nz2, nz3]
          focus (refine takeN 1 (v := ?_) rfl (by kernel_rfl) ?_ ?_; rotate_left; focus (intro w hSw; clear hSw; go_simp; try with_reducible rfl))
          try simp only [Act.put, nz1, nz2, nz3]
          first | (focus (refine takeG 2 (v := ?_) rfl (by kernel_rfl) ?_ ?_ ?_; rotate_left; (focus (first | rfl | (go_simp <;> fail))); (focus (intro w hSw; clear hSw; go_simp; try with_reducible rfl)))) | (refine skipG 2 rfl (by kernel_rfl) ?_ ?_; (focus (first | rfl | (go_simp <;> fail))))
          try simp only [Act.put, nz1, nz2, nz3]
          refine wpAnyH_ready (rs := [3]) (by kernel_rfl) (by simp) ?_
          refine consL 3 rfl (fun K hK => ?_) AllReadyH.nil
          first | (refine ifYes ?_ ?_; (focus rfl); go_simp; refine (letB (is_c _ _ hS.inw _)).mono ?_; rintro e' w61 ⟨_, m61, rfl, ⟨B61, HB61, rfl⟩, hk⟩; replace hS := hS.call hk; (try replace A0 := Lib.hid (Lay.mono _ hk.le A0.out)); replace hle := hle.trans hk.le; clear hk; obtain rfl : B61 = false := HB61.out.trans Hq.out; go_wp2_with fail) | (refine ifNo ?_ ?_; focus (first | exact Bool.false_ne_true | (go_simp <;> fail)))
          refine hK.out _ _ (by first | exact (hS.sx0.cons hS (by (repeat constructor))) | exact Sx.le (by assumption) (hS.sx0.cons hS (by (repeat constructor)))) (fun hHeld => ?_)
          clear hK K
          try simp only [Act.put, nz1, nz2, nz3]
          first | (focus (refine takeG 4 (v := ?_) rfl (by kernel_rfl) ?_ ?_ ?_; rotate_left; (focus (first | rfl | (go_simp <;> fail))); (focus (intro w hSw; clear hSw; go_simp; try with_reducible rfl)))) | (refine skipG 4 rfl (by kernel_rfl) ?_ ?_; (focus (first | rfl | (go_simp <;> fail))))
          try simp only [Act.put, nz1, nz2, nz3]
          focus (refine takeN 5 (v := ?_) rfl (by kernel_rfl) ?_ ?_; rotate_left; focus (intro w hSw; clear hSw; go_simp; try with_reducible rfl))
          try simp only [Act.put, nz1, nz2, nz3]
          focus (refine takeN 6 (v := ?_) rfl (by kernel_rfl) ?_ ?_; rotate_left; focus (intro w hSw; clear hSw; go_simp; try with_reducible rfl))
          try simp only [Act.put, nz1, nz2, nz3]
          first | (focus (refine' takeG 7 rfl (by kernel_rfl) ?_ ?_ ?_; rotate_left; (focus (first | rfl | (go_simp <;> fail))); (focus (intro w hSw; refine' yield_loads rfl rowT48 rfl ?_ w hSw; (first | (apply FindsX.box; (· (repeat constructor)); (· (repeat constructor)); done) | (refine FindsX.mem (by assumption) ?_; first | rfl | assumption | (simp; done))))))) | (refine skipG 7 rfl (by kernel_rfl) ?_ ?_; (focus (first | rfl | (go_simp <;> fail))))
          try simp only [Act.put, nz1, nz2, nz3]
          first | (focus (refine takeG 8 (v := ?_) rfl (by kernel_rfl) ?_ ?_ ?_; rotate_left; (focus (first | rfl | (go_simp <;> fail))); (focus (intro w hSw; clear hSw; go_simp; try with_reducible rfl)))) | (refine skipG 8 rfl (by kernel_rfl) ?_ ?_; (focus (first | rfl | (go_simp <;> fail))))
          try simp only [Act.put, nz1, nz2, nz3]
          first | (focus (refine' takeG 9 rfl (by kernel_rfl) ?_ ?_ ?_; rotate_left; (focus (first | rfl | (go_simp <;> fail))); (focus (intro w hSw; refine' yield_load rfl Try.underlying46 rfl rfl ?_ w hSw; (first | (apply FindX.box; (· (repeat constructor)); rfl) | exact FindX.mem (by assumption)))))) | (refine skipG 9 rfl (by kernel_rfl) ?_ ?_; (focus (first | rfl | (go_simp <;> fail))))
          try simp only [Act.put, nz1, nz2, nz3]
          first | (focus (refine takeG 10 (v := ?_) rfl (by kernel_rfl) ?_ ?_ ?_; rotate_left; (focus (first | rfl | (go_simp <;> fail))); (focus (intro w hSw; clear hSw; go_simp; try with_reducible rfl)))) | (refine skipG 10 rfl (by kernel_rfl) ?_ ?_; (focus (first | rfl | (go_simp <;> fail))))
          try simp only [Act.put, nz1, nz2, nz3]
          first | (focus (refine takeG 11 (v := ?_) rfl (by kernel_rfl) ?_ ?_ ?_; rotate_left; (focus (first | rfl | (go_simp <;> fail))); (focus (intro w hSw; clear hSw; go_simp; try with_reducible rfl)))) | (refine skipG 11 rfl (by kernel_rfl) ?_ ?_; (focus (first | rfl | (go_simp <;> fail))))
          try simp only [Act.put, nz1, nz2, nz3]
          first | (focus (refine' takeG 12 rfl (by kernel_rfl) ?_ ?_ ?_; rotate_left; (focus (first | rfl | (go_simp <;> fail))); (focus (intro w hSw; refine' yield_load rfl Try.underlying50 rfl rfl ?_ w hSw; (first | (apply FindX.box; (· (repeat constructor)); rfl) | exact FindX.mem (by assumption)))))) | (refine skipG 12 rfl (by kernel_rfl) ?_ ?_; (focus (first | rfl | (go_simp <;> fail))))
          try simp only [Act.put, nz1, nz2, nz3]
          refine wpAnyH_ready (rs := [13]) (by kernel_rfl) (by simp) ?_
          refine consL 13 rfl (fun K hK => ?_) AllReadyH.nil
          first | (refine ifYes ?_ ?_; (focus rfl); go_simp; refine (letB (fits_c _ _ hS.inw _ _ _ _ _ (by first | exact A0.out | exact dkL_dry A0.out | exact Lay.nil_rd _ _))).mono ?_; rintro e' w71 ⟨_, m71, rfl, ⟨B71, HB71, rfl⟩, hk⟩; replace hS := hS.call hk; (try replace A0 := Lib.hid (Lay.mono _ hk.le A0.out)); replace hle := hle.trans hk.le; clear hk; go_wp2_with fail) | (refine ifNo ?_ ?_; focus (first | exact Bool.false_ne_true | (go_simp <;> fail)))
          refine hK.out _ _ (by first | exact (hS.sx0.cons hS (by (repeat constructor))) | exact Sx.le (by assumption) (hS.sx0.cons hS (by (repeat constructor)))) (fun hHeld => ?_)
          clear hK K
          try simp only [Act.put, nz1, nz2, nz3]
          first | (focus (refine takeG 14 (v := ?_) rfl (by kernel_rfl) ?_ ?_ ?_; rotate_left; (focus (first | rfl | (go_simp <;> fail))); (focus (intro w hSw; clear hSw; go_simp; try with_reducible rfl)))) | (refine skipG 14 rfl (by kernel_rfl) ?_ ?_; (focus (first | rfl | (go_simp <;> fail))))
          try simp only [Act.put, nz1, nz2, nz3]
          focus (refine takeN 15 (v := ?_) rfl (by kernel_rfl) ?_ ?_; rotate_left; focus (intro w hSw; clear hSw; go_simp; try with_reducible rfl))
          try simp only [Act.put, nz1, nz2, nz3]
          refine wpAnyH_done (by kernel_rfl) ?_ _
          refine NoPanic.normal ?_
          all_goals
            go_wp2_with fail
            go_ret2
            exact .inr ⟨HB.out, rfl, hS.done.less (Mem.Le.refl _)⟩
      · obtain ⟨V, hV⟩ : ∃ V, (dirF s k x).getD 0 = V := ⟨_, rfl⟩
        have HLk : Hid ((dirF s k x).getD 0 = V ∧ (dirF s k x).isSome = false) := ⟨hV, hmet⟩
        have HB := Lib.hid (hN hb)
        have Hq : Hid (decide (0 ≤ x ∧ x ≤ 2147483647) = true) := decide_eq_true his
        have Hf : Hid (decide (fitsV s.dim v) = false) := decide_eq_false hfit
        have hx : ¬ x = -1 := h0
        clear hA hN hneg HSk HPut hlook hb hmet hV h0 his hfit hkk hsz
        go_wp2_with (first
    | ((with_reducible refine' Wl.out ?_; apply k_box (ty := 48) (y := (.tmp 0)) hS); (· exact .mk); clear hS; intro w1 b1 hS)
    | ((with_reducible refine' Wl.out ?_; apply k_load hS); (· exact .mk))
    | ((with_reducible refine' Wl.out ?_; apply k_loads hS); (· exact .mk))
    | go_skip
    | ((with_reducible refine' Wl.out ?_; apply kg_load hS); iterate 2 (· exact .mk))
    | ((with_reducible refine' Wl.out ?_; apply kg_loads hS); iterate 2 (· exact .mk))
    | ((with_reducible refine' Wl.out ?_; refine' wg_case ?_ ?_) <;> (intro hgW; (try (have hg2 := hgW; simp [go_sem] at hg2)); (first | (exfalso; assumption) | ((with_reducible refine' Wl.out ?_; apply k_no hgW)) | ((with_reducible refine' Wl.out ?_; apply kg_load hS ⟨hgW⟩); (· exact .mk)) | ((with_reducible refine' Wl.out ?_; apply kg_loads hS ⟨hgW⟩); (· exact .mk))); clear hgW))
    | ((with_reducible refine' Wl.out ?_; apply wl_lookup2 hS mapT); (· exact rfl); (· (repeat constructor)); (· exact rfl); (· exact HK.out); (· exact HLk.out)))
        replace hS := hS.drew
        have hle := hS.leSelf
        refine startL (S := Sx _ [(b1, _)]) (by kernel_rfl) (hS.sx0.cons hS (by (repeat constructor))) (fun _ _ _ _ => trivial) (fun hHeld => ?_)
        focus (refine takeN 0 (v := ?_) rfl (by kernel_rfl) ?_ ?_; rotate_left; focus (intro w hSw; clear hSw; go_simp; try with_reducible rfl))
        try simp only [Act.put, nz1, nz2, nz3]
        focus (refine takeN 1 (v := ?_) rfl (by kernel_rfl) ?_ ?_; rotate_left; focus (intro w hSw; clear hSw; go_simp; try with_reducible rfl))
        try simp only [Act.put, nz1, nz2, nz3]
        first | (focus (refine takeG 2 (v := ?_) rfl (by kernel_rfl) ?_ ?_ ?_; rotate_left; (focus (first | rfl | (go_simp <;> fail))); (focus (intro w hSw; clear hSw; go_simp; try with_reducible rfl)))) | (refine skipG 2 rfl (by kernel_rfl) ?_ ?_; (focus (first | rfl | (go_simp <;> fail))))
        try simp only [Act.put, nz1, nz2, nz3]
        refine wpAnyH_ready (rs := [3]) (by kernel_rfl) (by simp) ?_
        refine consL 3 rfl (fun K hK => ?_) AllReadyH.nil
        first | (refine ifYes ?_ ?_; (focus rfl); go_simp; refine (letB (is_c _ _ hS.inw _)).mono ?_; rintro e' w61 ⟨_, m61, rfl, ⟨B61, HB61, rfl⟩, hk⟩; replace hS := hS.call hk; (try replace A0 := Lib.hid (Lay.mono _ hk.le A0.out)); replace hle := hle.trans hk.le; clear hk; obtain rfl : B61 = true := HB61.out.trans Hq.out; go_wp2_with fail) | (refine ifNo ?_ ?_; focus (first | exact Bool.false_ne_true | (go_simp <;> fail)))
        refine hK.out _ _ (by first | exact (hS.sx0.cons hS (by (repeat constructor))) | exact Sx.le (by assumption) (hS.sx0.cons hS (by (repeat constructor)))) (fun hHeld => ?_)
        clear hK K
        try simp only [Act.put, nz1, nz2, nz3]
        first | (focus (refine takeG 4 (v := ?_) rfl (by kernel_rfl) ?_ ?_ ?_; rotate_left; (focus (first | rfl | (go_simp <;> fail))); (focus (intro w hSw; clear hSw; go_simp; try with_reducible rfl)))) | (refine skipG 4 rfl (by kernel_rfl) ?_ ?_; (focus (first | rfl | (go_simp <;> fail))))
        try simp only [Act.put, nz1, nz2, nz3]
        focus (refine takeN 5 (v := ?_) rfl (by kernel_rfl) ?_ ?_; rotate_left; focus (intro w hSw; clear hSw; go_simp; try with_reducible rfl))
        try simp only [Act.put, nz1, nz2, nz3]
        focus (refine takeN 6 (v := ?_) rfl (by kernel_rfl) ?_ ?_; rotate_left; focus (intro w hSw; clear hSw; go_simp; try with_reducible rfl))
        try simp only [Act.put, nz1, nz2, nz3]
        first | (focus (refine' takeG 7 rfl (by kernel_rfl) ?_ ?_ ?_; rotate_left; (focus (first | rfl | (go_simp <;> fail))); (focus (intro w hSw; refine' yield_loads rfl rowT48 rfl ?_ w hSw; (first | (apply FindsX.box; (· (repeat constructor)); (· (repeat constructor)); done) | (refine FindsX.mem (by assumption) ?_; first | rfl | assumption | (simp; done))))))) | (refine skipG 7 rfl (by kernel_rfl) ?_ ?_; (focus (first | rfl | (go_simp <;> fail))))
        try simp only [Act.put, nz1, nz2, nz3]
        first | (focus (refine takeG 8 (v := ?_) rfl (by kernel_rfl) ?_ ?_ ?_; rotate_left; (focus (first | rfl | (go_simp <;> fail))); (focus (intro w hSw; clear hSw; go_simp; try with_reducible rfl)))) | (refine skipG 8 rfl (by kernel_rfl) ?_ ?_; (focus (first | rfl | (go_simp <;> fail))))
        try simp only [Act.put, nz1, nz2, nz3]
        first | (focus (refine' takeG 9 rfl (by kernel_rfl) ?_ ?_ ?_; rotate_left; (focus (first | rfl | (go_simp <;> fail))); (focus (intro w hSw; refine' yield_load rfl Try.underlying46 rfl rfl ?_ w hSw; (first | (apply FindX.box; (· (repeat constructor)); rfl) | exact FindX.mem (by assumption)))))) | (refine skipG 9 rfl (by kernel_rfl) ?_ ?_; (focus (first | rfl | (go_simp <;> fail))))
        try simp only [Act.put, nz1, nz2, nz3]
        first | (focus (refine takeG 10 (v := ?_) rfl (by kernel_rfl) ?_ ?_ ?_; rotate_left; (focus (first | rfl | (go_simp <;> fail))); (focus (intro w hSw; clear hSw; go_simp; try with_reducible rfl)))) | (refine skipG 10 rfl (by kernel_rfl) ?_ ?_; (focus (first | rfl | (go_simp <;> fail))))
        try simp only [Act.put, nz1, nz2, nz3]
        first | (focus (refine takeG 11 (v := ?_) rfl (by kernel_rfl) ?_ ?_ ?_; rotate_left; (focus (first | rfl | (go_simp <;> fail))); (focus (intro w hSw; clear hSw; go_simp; try with_reducible rfl)))) | (refine skipG 11 rfl (by kernel_rfl) ?_ ?_; (focus (first | rfl | (go_simp <;> fail))))
        try simp only [Act.put, nz1, nz2, nz3]
        first | (focus (refine' takeG 12 rfl (by kernel_rfl) ?_ ?_ ?_; rotate_left; (focus (first | rfl | (go_simp <;> fail))); (focus (intro w hSw; refine' yield_load rfl Try.underlying50 rfl rfl ?_ w hSw; (first | (apply FindX.box; (· (repeat constructor)); rfl) | exact FindX.mem (by assumption)))))) | (refine skipG 12 rfl (by kernel_rfl) ?_ ?_; (focus (first | rfl | (go_simp <;> fail))))
        try simp only [Act.put, nz1, nz2, nz3]
        refine wpAnyH_ready (rs := [13]) (by kernel_rfl) (by simp) ?_
        refine consL 13 rfl (fun K hK => ?_) AllReadyH.nil
        first | (refine ifYes ?_ ?_; (focus rfl); go_simp; refine (letB (fits_c _ _ hS.inw _ _ _ _ _ (by first | exact A0.out | exact dkL_dry A0.out | exact Lay.nil_rd _ _))).mono ?_; rintro e' w71 ⟨_, m71, rfl, ⟨B71, HB71, rfl⟩, hk⟩; replace hS := hS.call hk; (try replace A0 := Lib.hid (Lay.mono _ hk.le A0.out)); replace hle := hle.trans hk.le; clear hk; obtain rfl : B71 = false := HB71.out.trans Hf.out; go_wp2_with fail) | (refine ifNo ?_ ?_; focus (first | exact Bool.false_ne_true | (go_simp <;> fail)))
        refine hK.out _ _ (by first | exact (hS.sx0.cons hS (by (repeat constructor))) | exact Sx.le (by assumption) (hS.sx0.cons hS (by (repeat constructor)))) (fun hHeld => ?_)
        clear hK K
        try simp only [Act.put, nz1, nz2, nz3]
        first | (focus (refine takeG 14 (v := ?_) rfl (by kernel_rfl) ?_ ?_ ?_; rotate_left; (focus (first | rfl | (go_simp <;> fail))); (focus (intro w hSw; clear hSw; go_simp; try with_reducible rfl)))) | (refine skipG 14 rfl (by kernel_rfl) ?_ ?_; (focus (first | rfl | (go_simp <;> fail))))
        try simp only [Act.put, nz1, nz2, nz3]
        focus (refine takeN 15 (v := ?_) rfl (by kernel_rfl) ?_ ?_; rotate_left; focus (intro w hSw; clear hSw; go_simp; try with_reducible rfl))
        try simp only [Act.put, nz1, nz2, nz3]
        refine wpAnyH_done (by kernel_rfl) ?_ _
        refine NoPanic.normal ?_
        all_goals
          go_wp2_with fail
          go_ret2
          exact .inr ⟨HB.out, rfl, hS.done.less (Mem.Le.refl _)⟩
      · obtain ⟨V, hV⟩ : ∃ V, (dirF s k x).getD 0 = V := ⟨_, rfl⟩
        have HLk : Hid ((dirF s k x).getD 0 = V ∧ (dirF s k x).isSome = false) := ⟨hV, hmet⟩
        have HA := hA hg
        have HF := Lib.hid (HPut.out h0)
        have Hq : Hid (decide (0 ≤ x ∧ x ≤ 2147483647) = true) := decide_eq_true his
        have Hf : Hid (decide (fitsV s.dim v) = true) := decide_eq_true hfit
        have hx : ¬ x = -1 := h0
        have HKK := Lib.hid hkk
        clear hA hN hneg HSk HPut hlook hg hmet hV h0 his hfit hkk
        go_wp2_with (first
    | ((with_reducible refine' Wl.out ?_; apply k_box (ty := 48) (y := (.tmp 0)) hS); (· exact .mk); clear hS; intro w1 b1 hS)
    | ((with_reducible refine' Wl.out ?_; apply k_load hS); (· exact .mk))
    | ((with_reducible refine' Wl.out ?_; apply k_loads hS); (· exact .mk))
    | go_skip
    | ((with_reducible refine' Wl.out ?_; apply kg_load hS); iterate 2 (· exact .mk))
    | ((with_reducible refine' Wl.out ?_; apply kg_loads hS); iterate 2 (· exact .mk))
    | ((with_reducible refine' Wl.out ?_; refine' wg_case ?_ ?_) <;> (intro hgW; (try (have hg2 := hgW; simp [go_sem] at hg2)); (first | (exfalso; assumption) | ((with_reducible refine' Wl.out ?_; apply k_no hgW)) | ((with_reducible refine' Wl.out ?_; apply kg_load hS ⟨hgW⟩); (· exact .mk)) | ((with_reducible refine' Wl.out ?_; apply kg_loads hS ⟨hgW⟩); (· exact .mk))); clear hgW))
    | ((with_reducible refine' Wl.out ?_; apply wl_lookup2 hS mapT); (· exact rfl); (· (repeat constructor)); (· exact rfl); (· exact HK.out); (· exact HLk.out)))
        replace hS := hS.drew
        have hle := hS.leSelf
        refine startL (S := Sx _ [(b1, _)]) (by kernel_rfl) (hS.sx0.cons hS (by (repeat constructor))) (fun _ _ _ _ => trivial) (fun hHeld => ?_)
        focus (refine takeN 0 (v := ?_) rfl (by kernel_rfl) ?_ ?_; rotate_left; focus (intro w hSw; clear hSw; go_simp; try with_reducible rfl))
        try simp only [Act.put, nz1, nz2, nz3]
        focus (refine takeN 1 (v := ?_) rfl (by kernel_rfl) ?_ ?_; rotate_left; focus (intro w hSw; clear hSw; go_simp; try with_reducible rfl))
        try simp only [Act.put, nz1, nz2, nz3]
        first | (focus (refine takeG 2 (v := ?_) rfl (by kernel_rfl) ?_ ?_ ?_; rotate_left; (focus (first | rfl | (go_simp <;> fail))); (focus (intro w hSw; clear hSw; go_simp; try with_reducible rfl)))) | (refine skipG 2 rfl (by kernel_rfl) ?_ ?_; (focus (first | rfl | (go_simp <;> fail))))
        try simp only [Act.put, nz1, nz2, nz3]
        refine wpAnyH_ready (rs := [3]) (by kernel_rfl) (by simp) ?_
        refine consL 3 rfl (fun K hK => ?_) AllReadyH.nil
        first | (refine ifYes ?_ ?_; (focus rfl); go_simp; refine (letB (is_c _ _ hS.inw _)).mono ?_; rintro e' w61 ⟨_, m61, rfl, ⟨B61, HB61, rfl⟩, hk⟩; replace hS := hS.call hk; (try replace A0 := Lib.hid (Lay.mono _ hk.le A0.out)); replace hle := hle.trans hk.le; clear hk; obtain rfl : B61 = true := HB61.out.trans Hq.out; go_wp2_with fail) | (refine ifNo ?_ ?_; focus (first | exact Bool.false_ne_true | (go_simp <;> fail)))
        refine hK.out _ _ (by first | exact (hS.sx0.cons hS (by (repeat constructor))) | exact Sx.le (by assumption) (hS.sx0.cons hS (by (repeat constructor)))) (fun hHeld => ?_)
        clear hK K
        try simp only [Act.put, nz1, nz2, nz3]
        first | (focus (refine takeG 4 (v := ?_) rfl (by kernel_rfl) ?_ ?_ ?_; rotate_left; (focus (first | rfl | (go_simp <;> fail))); (focus (intro w hSw; clear hSw; go_simp; try with_reducible rfl)))) | (refine skipG 4 rfl (by kernel_rfl) ?_ ?_; (focus (first | rfl | (go_simp <;> fail))))
        try simp only [Act.put, nz1, nz2, nz3]
        focus (refine takeN 5 (v := ?_) rfl (by kernel_rfl) ?_ ?_; rotate_left; focus (intro w hSw; clear hSw; go_simp; try with_reducible rfl))
        try simp only [Act.put, nz1, nz2, nz3]
        focus (refine takeN 6 (v := ?_) rfl (by kernel_rfl) ?_ ?_; rotate_left; focus (intro w hSw; clear hSw; go_simp; try with_reducible rfl))
        try simp only [Act.put, nz1, nz2, nz3]
        first | (focus (refine' takeG 7 rfl (by kernel_rfl) ?_ ?_ ?_; rotate_left; (focus (first | rfl | (go_simp <;> fail))); (focus (intro w hSw; refine' yield_loads rfl rowT48 rfl ?_ w hSw; (first | (apply FindsX.box; (· (repeat constructor)); (· (repeat constructor)); done) | (refine FindsX.mem (by assumption) ?_; first | rfl | assumption | (simp; done))))))) | (refine skipG 7 rfl (by kernel_rfl) ?_ ?_; (focus (first | rfl | (go_simp <;> fail))))
        try simp only [Act.put, nz1, nz2, nz3]
        first | (focus (refine takeG 8 (v := ?_) rfl (by kernel_rfl) ?_ ?_ ?_; rotate_left; (focus (first | rfl | (go_simp <;> fail))); (focus (intro w hSw; clear hSw; go_simp; try with_reducible rfl)))) | (refine skipG 8 rfl (by kernel_rfl) ?_ ?_; (focus (first | rfl | (go_simp <;> fail))))
        try simp only [Act.put, nz1, nz2, nz3]
        first | (focus (refine' takeG 9 rfl (by kernel_rfl) ?_ ?_ ?_; rotate_left; (focus (first | rfl | (go_simp <;> fail))); (focus (intro w hSw; refine' yield_load rfl Try.underlying46 rfl rfl ?_ w hSw; (first | (apply FindX.box; (· (repeat constructor)); rfl) | exact FindX.mem (by assumption)))))) | (refine skipG 9 rfl (by kernel_rfl) ?_ ?_; (focus (first | rfl | (go_simp <;> fail))))
        try simp only [Act.put, nz1, nz2, nz3]
        first | (focus (refine takeG 10 (v := ?_) rfl (by kernel_rfl) ?_ ?_ ?_; rotate_left; (focus (first | rfl | (go_simp <;> fail))); (focus (intro w hSw; clear hSw; go_simp; try with_reducible rfl)))) | (refine skipG 10 rfl (by kernel_rfl) ?_ ?_; (focus (first | rfl | (go_simp <;> fail))))
        try simp only [Act.put, nz1, nz2, nz3]
        first | (focus (refine takeG 11 (v := ?_) rfl (by kernel_rfl) ?_ ?_ ?_; rotate_left; (focus (first | rfl | (go_simp <;> fail))); (focus (intro w hSw; clear hSw; go_simp; try with_reducible rfl)))) | (refine skipG 11 rfl (by kernel_rfl) ?_ ?_; (focus (first | rfl | (go_simp <;> fail))))
        try simp only [Act.put, nz1, nz2, nz3]
        first | (focus (refine' takeG 12 rfl (by kernel_rfl) ?_ ?_ ?_; rotate_left; (focus (first | rfl | (go_simp <;> fail))); (focus (intro w hSw; refine' yield_load rfl Try.underlying50 rfl rfl ?_ w hSw; (first | (apply FindX.box; (· (repeat constructor)); rfl) | exact FindX.mem (by assumption)))))) | (refine skipG 12 rfl (by kernel_rfl) ?_ ?_; (focus (first | rfl | (go_simp <;> fail))))
        try simp only [Act.put, nz1, nz2, nz3]
        refine wpAnyH_ready (rs := [13]) (by kernel_rfl) (by simp) ?_
        refine consL 13 rfl (fun K hK => ?_) AllReadyH.nil
        first | (refine ifYes ?_ ?_; (focus rfl); go_simp; refine (letB (fits_c _ _ hS.inw _ _ _ _ _ (by first | exact A0.out | exact dkL_dry A0.out | exact Lay.nil_rd _ _))).mono ?_; rintro e' w71 ⟨_, m71, rfl, ⟨B71, HB71, rfl⟩, hk⟩; replace hS := hS.call hk; (try replace A0 := Lib.hid (Lay.mono _ hk.le A0.out)); replace hle := hle.trans hk.le; clear hk; obtain rfl : B71 = true := HB71.out.trans Hf.out; go_wp2_with fail) | (refine ifNo ?_ ?_; focus (first | exact Bool.false_ne_true | (go_simp <;> fail)))
        refine hK.out _ _ (by first | exact (hS.sx0.cons hS (by (repeat constructor))) | exact Sx.le (by assumption) (hS.sx0.cons hS (by (repeat constructor)))) (fun hHeld => ?_)
        clear hK K
        try simp only [Act.put, nz1, nz2, nz3]
        first | (focus (refine takeG 14 (v := ?_) rfl (by kernel_rfl) ?_ ?_ ?_; rotate_left; (focus (first | rfl | (go_simp <;> fail))); (focus (intro w hSw; clear hSw; go_simp; try with_reducible rfl)))) | (refine skipG 14 rfl (by kernel_rfl) ?_ ?_; (focus (first | rfl | (go_simp <;> fail))))
        try simp only [Act.put, nz1, nz2, nz3]
        focus (refine takeN 15 (v := ?_) rfl (by kernel_rfl) ?_ ?_; rotate_left; focus (intro w hSw; clear hSw; go_simp; try with_reducible rfl))
        try simp only [Act.put, nz1, nz2, nz3]
        refine wpAnyH_done (by kernel_rfl) ?_ _
        refine NoPanic.normal ?_
        all_goals
          go_wp2_with (first
            | ((with_reducible refine' Wl.out ?_; apply wl_mapUpdate (c := (k : Int)) hS mapT); (· exact rfl); (· exact rfl); (· exact HK.out); (· exact rfl); (· exact HKK.out); (· exact hsz); (· exact HF.out); (· repeat constructor); clear hS; intro w9 hS))
          go_roundw
          case rel => exact ⟨k + 1, n + 1, hlt, by go_num, by omega, HA, hS.less (Mem.Le.refl _)⟩
          case measure => simp [intOf]; omega
    · obtain rfl : k = s.ids.length := by omega
      go_wp2_with (first
    | ((with_reducible refine' Wl.out ?_; apply k_box (ty := 48) (y := (.tmp 0)) hS); (· exact .mk); clear hS; intro w1 b1 hS)
    | ((with_reducible refine' Wl.out ?_; apply k_load hS); (· exact .mk))
    | ((with_reducible refine' Wl.out ?_; apply k_loads hS); (· exact .mk))
    | go_skip
    | ((with_reducible refine' Wl.out ?_; apply kg_load hS); iterate 2 (· exact .mk))
    | ((with_reducible refine' Wl.out ?_; apply kg_loads hS); iterate 2 (· exact .mk))
    | ((with_reducible refine' Wl.out ?_; refine' wg_case ?_ ?_) <;> (intro hgW; (try (have hg2 := hgW; simp [go_sem] at hg2)); (first | (exfalso; assumption) | ((with_reducible refine' Wl.out ?_; apply k_no hgW)) | ((with_reducible refine' Wl.out ?_; apply kg_load hS ⟨hgW⟩); (· exact .mk)) | ((with_reducible refine' Wl.out ?_; apply kg_loads hS ⟨hgW⟩); (· exact .mk))); clear hgW)))
      go_ret2
      exact .inl ⟨hyes.out hall.out, b32, n, by omega, rfl, (hS.drop _ (by simp)).less (Mem.Le.refl _)⟩
noncomputable instance (s : Sl) : Decidable (dirOK s) := Classical.propDecidable _
noncomputable def chkS (s : Sl) : Int := if dirOK s then 0 else 1
set_option maxRecDepth 100000 in
set_option maxHeartbeats 4000000 in
theorem scheck_c (m : Mem) (w : World) (hm : m.In w) (v0 v1 v2 : Value) (s : Sl) (h : slL.rd m [v0, v1, v2] s) :
    Calls Try.prog 64 #[.agg #[v0, v1, v2]] w (Ret w m fun v _ => v = .int .i64 (chkS s)) := by
  have hS := St.start hm
  have A0 := Lib.hid h
  clear h
  go_enter Try.func64, Try.ntmps64
  go_wp2_with (first
    | ((with_reducible refine' Wl.out ?_; apply k_box (ty := 48) (y := (.tmp 0)) hS); (· exact .mk); clear hS; intro w1 b1 hS)
    | ((with_reducible refine' Wl.out ?_; apply k_loads hS); (· exact .mk))
    | (go_at_call 67; refine (directory_c m _ hS.inw _ s A0.out).mono ?_; rintro e' w7 (⟨hok, b, n, hn, rfl, hk⟩ | ⟨hok, rfl, hk⟩) <;> (replace hS := hS.callOwn hk; clear hk; replace hok := Lib.hid hok)))
  · go_ret
    exact ⟨_, m, rfl, by unfold chkS; rw [if_pos hok.out]; rfl, hS.done⟩
  · go_ret
    exact ⟨_, m, rfl, by unfold chkS; rw [if_neg hok.out]; rfl, hS.done⟩
end Go.Proofs.Ytlkdjmpkapeppaa
/- Results of package best as letters; the reference's Same. -/
namespace Go.Proofs.Ytlkdjmpkapeppaa
set_option linter.unusedVariables false
set_option linter.unusedSimpArgs false
open Go.RowKit Go.Shelf
theorem addH_len {l : List Hit} {k : Int} {h : Hit} : (addH l k h).length ≤ 256 := by
  unfold addH
  split
  · rename_i hh
    obtain ⟨h1, h2, h3, _, _, h6⟩ := hh.1
    have := (add_ok (k := k.toNat) (h := h) h6 (by omega) (by omega)).2.1
    omega
  · simp
theorem sortH_len {l : List Hit} {k : Int} : (sortH l k).length ≤ 256 := by
  unfold sortH
  split
  · rename_i hh
    have := srt_length l
    have := hh.2.1
    have := hh.2.2.1
    omega
  · simp
theorem letHE {f : FuncId} {args : Array Value} {w : World} {m : Mem} {R : List Hit} {E : Int} (hb : R.length ≤ 256) (h : Calls Try.prog f args w (OwnHE w m R E)) :
    Calls Try.prog f args w (Ret w m fun v m' => ∃ p c Y e', Hid (Y = R) ∧ Hid (e' = E) ∧ v = .tuple #[.slice p Y.length c, .int .i64 e'] ∧ Hid (hitL.list.rd m' [.slice p Y.length c] Y) ∧ Hid (Y.length ≤ c ∧ c ≤ maxLen)) :=
  h.mono fun en w' ⟨q, c, h1, h2, h3⟩ => by
    have hc : R.length ≤ c ∧ c ≤ maxLen := by
      rcases (h3.row 0 rfl).2 with ⟨e, h0⟩ | ⟨g, cap, cur, e, _, _, k1, k2, _⟩
      · obtain ⟨_, rfl⟩ : q = none ∧ c = 0 := by injection e with e1 e2 e3; exact ⟨e1, e3⟩
        rw [h0]; exact ⟨Nat.le_refl _, Nat.zero_le _⟩
      · cases e; exact ⟨k1, k2⟩
    obtain ⟨m', hS, hle, hrd⟩ := St.settleRow' (L := hitL) h3 0 rfl rfl (hits_cellsOf m h2) (by show R.length * 16 ≤ _; omega)
    exact ⟨_, m', h1, ⟨q, c, R, E, rfl, rfl, rfl, hrd, hc⟩, ⟨hS.kept, by simp, .nil, fun a v hv => ⟨(hS.know a v hv).1, by simp⟩, hS.le, hS.new⟩⟩
theorem letW {f : FuncId} {args : Array Value} {w : World} {m : Mem} {H : Hit} {B : Bool} {E : Int} (h : Calls Try.prog f args w (Ret w m fun v _ => v = .tuple #[hitA H, .bool B, .int .i64 E])) :
    Calls Try.prog f args w (Ret w m fun v m' => ∃ H' B' E', Hid (H' = H) ∧ Hid (B' = B) ∧ Hid (E' = E) ∧ v = .tuple #[.agg #[.int .i64 H'.dist, .int .i64 H'.id], .bool B', .int .i64 E']) :=
  h.mono fun en w' ⟨v, m', h1, h2, h3⟩ => ⟨v, m', h1, ⟨H, B, E, rfl, rfl, rfl, h2⟩, h3⟩
set_option maxRecDepth 100000 in
set_option maxHeartbeats 4000000 in
theorem same16_c (m : Mem) (w : World) (hm : m.In w) (v u : Value) (a b : List Hit) (ha : hitL.list.rd m [v] a) (hb : hitL.list.rd m [u] b) :
    Calls Try.prog 15 #[v, u] w (Ret w m fun v _ => v = .bool (decide (a = b))) := by
  have hS := St.start hm
  obtain ⟨p, c, rfl, a1, a2, a3, ra⟩ := Lay.list_open ha
  obtain ⟨q, d, rfl, b1, b2, b3, rb⟩ := Lay.list_open hb
  have HA := Lib.hid ra
  have HB := Lib.hid rb
  have hla : a.length ≤ 9223372036854775807 := by simp only [maxLen] at a2; omega
  clear ha hb ra rb a1 a2 a3 b1 b2 b3
  by_cases hl : a.length = b.length
  · have hl1 : (a.length : Int) = b.length := by omega
    have hl2 : ((a.length : Int) != b.length) = false := by simp [hl]
    have HLn := Lib.hid hl
    clear hl hl1
    go_enter Try.func15, Try.ntmps15
    go_wp2_with fail
    go_loopw [13] (fun i wr => ∃ k : Nat, k ≤ a.length ∧ i = .int .i64 k ∧ Hid (a.take k = b.take k) ∧ St [] w m wr [] m) (fun i _ => a.length - (intOf i).toNat)
    case atStart => exact ⟨0, Nat.zero_le _, rfl, by simp [Hid], hS⟩
    case round =>
      clear hS
      obtain ⟨k, hk, rfl, hP, hS⟩ := hrel
      by_cases hlt : k < a.length
      · have hlt' : k < b.length := by have := HLn.out; omega
        obtain ⟨b1, o1, cs1, rfl, hcs1, hc1⟩ := HA.out.get k hlt
        obtain ⟨b2, o2, cs2, rfl, hcs2, hc2⟩ := HB.out.get k hlt'
        obtain ⟨rfl, i1, i2⟩ := hitL_open hcs1
        obtain ⟨rfl, j1, j2⟩ := hitL_open hcs2
        have hcx : ∀ j v, [Value.int .i64 a[k].dist, .int .i64 a[k].id][j]? = some v → m ⟨b1, o1 + k * 2 + j, none⟩ = some v := hc1
        have hcy : ∀ j v, [Value.int .i64 b[k].dist, .int .i64 b[k].id][j]? = some v → m ⟨b2, o2 + k * 2 + j, none⟩ = some v := hc2
        have hka : (k : Int) < a.length := by omega
        have hkb : (k : Int) < b.length := by omega
        have hN : Hid (a[k] = b[k] → a.take (k + 1) = b.take (k + 1)) := fun e => by
          rw [List.take_succ_eq_append_getElem hlt, List.take_succ_eq_append_getElem hlt', hP.out, e]
        have hM : Hid (a[k] ≠ b[k] → a ≠ b) := fun e h => e (by subst h; rfl)
        clear hcs1 hcs2 hc1 hc2 HA HB hP
        generalize a[k] = x at *
        generalize b[k] = y at *
        by_cases e1 : x.dist = y.dist
        · by_cases e2 : x.id = y.id
          · obtain rfl := Hit.ext' e1 e2
            have HN := Lib.hid (hN.out rfl)
            clear e1 e2 hN hM
            go_wp2_with (first 
    | ((with_reducible refine' Wl.out ?_; apply k_loads hS); (· exact .mk)))
            replace hS := hS.drew
            refine startL (S := Sx _ []) (by kernel_rfl) hS.sx0 (fun _ _ _ _ => trivial) (fun hHeld => ?_)
            focus (refine takeN 0 (v := ?_) rfl (by kernel_rfl) ?_ ?_; rotate_left; focus (intro w hSw; clear hSw; go_simp; try with_reducible rfl))
            try simp only [Act.put, nz1, nz2, nz3]
            focus (refine takeN 1 (v := ?_) rfl (by kernel_rfl) ?_ ?_; rotate_left; focus (intro w hSw; clear hSw; go_simp; try with_reducible rfl))
            try simp only [Act.put, nz1, nz2, nz3]
            focus (refine takeN 2 (v := ?_) rfl (by kernel_rfl) ?_ ?_; rotate_left; focus (intro w hSw; clear hSw; go_simp; try with_reducible rfl))
            try simp only [Act.put, nz1, nz2, nz3]
            refine takeN 3 rfl (by kernel_rfl) (yield_loads rfl rowT30 rfl (by (first | (apply FindsX.box; (· (repeat constructor)); (· (repeat constructor)); done) | (refine FindsX.mem (by assumption) ?_; first | rfl | assumption | (simp; done))))) ?_
            try simp only [Act.put, nz1, nz2, nz3]
            focus (refine takeN 4 (v := ?_) rfl (by kernel_rfl) ?_ ?_; rotate_left; focus (intro w hSw; clear hSw; go_simp; try with_reducible rfl))
            try simp only [Act.put, nz1, nz2, nz3]
            focus (refine takeN 5 (v := ?_) rfl (by kernel_rfl) ?_ ?_; rotate_left; focus (intro w hSw; clear hSw; go_simp; try with_reducible rfl))
            try simp only [Act.put, nz1, nz2, nz3]
            focus (refine takeN 6 (v := ?_) rfl (by kernel_rfl) ?_ ?_; rotate_left; focus (intro w hSw; clear hSw; go_simp; try with_reducible rfl))
            try simp only [Act.put, nz1, nz2, nz3]
            refine takeN 7 rfl (by kernel_rfl) (yield_loads rfl rowT30 rfl (by (first | (apply FindsX.box; (· (repeat constructor)); (· (repeat constructor)); done) | (refine FindsX.mem (by assumption) ?_; first | rfl | assumption | (simp; done))))) ?_
            try simp only [Act.put, nz1, nz2, nz3]
            focus (refine takeN 8 (v := ?_) rfl (by kernel_rfl) ?_ ?_; rotate_left; focus (intro w hSw; clear hSw; go_simp; try with_reducible rfl))
            try simp only [Act.put, nz1, nz2, nz3]
            refine wpAnyH_done (by kernel_rfl) ?_ _
            refine NoPanic.normal ?_
            all_goals go_wp2_with fail
            go_roundw
            case rel => exact ⟨k + 1, hlt, by go_num, HN, hS⟩
            case measure => simp [intOf]; omega
          · have HM := Lib.hid (hM.out fun e => e2 (by rw [e]))
            clear hN hM
            go_wp2_with (first 
    | ((with_reducible refine' Wl.out ?_; apply k_loads hS); (· exact .mk)))
            replace hS := hS.drew
            refine startL (S := Sx _ []) (by kernel_rfl) hS.sx0 (fun _ _ _ _ => trivial) (fun hHeld => ?_)
            focus (refine takeN 0 (v := ?_) rfl (by kernel_rfl) ?_ ?_; rotate_left; focus (intro w hSw; clear hSw; go_simp; try with_reducible rfl))
            try simp only [Act.put, nz1, nz2, nz3]
            focus (refine takeN 1 (v := ?_) rfl (by kernel_rfl) ?_ ?_; rotate_left; focus (intro w hSw; clear hSw; go_simp; try with_reducible rfl))
            try simp only [Act.put, nz1, nz2, nz3]
            focus (refine takeN 2 (v := ?_) rfl (by kernel_rfl) ?_ ?_; rotate_left; focus (intro w hSw; clear hSw; go_simp; try with_reducible rfl))
            try simp only [Act.put, nz1, nz2, nz3]
            refine takeN 3 rfl (by kernel_rfl) (yield_loads rfl rowT30 rfl (by (first | (apply FindsX.box; (· (repeat constructor)); (· (repeat constructor)); done) | (refine FindsX.mem (by assumption) ?_; first | rfl | assumption | (simp; done))))) ?_
            try simp only [Act.put, nz1, nz2, nz3]
            focus (refine takeN 4 (v := ?_) rfl (by kernel_rfl) ?_ ?_; rotate_left; focus (intro w hSw; clear hSw; go_simp; try with_reducible rfl))
            try simp only [Act.put, nz1, nz2, nz3]
            focus (refine takeN 5 (v := ?_) rfl (by kernel_rfl) ?_ ?_; rotate_left; focus (intro w hSw; clear hSw; go_simp; try with_reducible rfl))
            try simp only [Act.put, nz1, nz2, nz3]
            focus (refine takeN 6 (v := ?_) rfl (by kernel_rfl) ?_ ?_; rotate_left; focus (intro w hSw; clear hSw; go_simp; try with_reducible rfl))
            try simp only [Act.put, nz1, nz2, nz3]
            refine takeN 7 rfl (by kernel_rfl) (yield_loads rfl rowT30 rfl (by (first | (apply FindsX.box; (· (repeat constructor)); (· (repeat constructor)); done) | (refine FindsX.mem (by assumption) ?_; first | rfl | assumption | (simp; done))))) ?_
            try simp only [Act.put, nz1, nz2, nz3]
            focus (refine takeN 8 (v := ?_) rfl (by kernel_rfl) ?_ ?_; rotate_left; focus (intro w hSw; clear hSw; go_simp; try with_reducible rfl))
            try simp only [Act.put, nz1, nz2, nz3]
            refine wpAnyH_done (by kernel_rfl) ?_ _
            refine NoPanic.normal ?_
            all_goals go_wp2_with fail
            go_ret
            exact ⟨_, m, rfl, vbool (by have := HM.out; simp [this]), hS.done⟩
        · have HM := Lib.hid (hM.out fun e => e1 (by rw [e]))
          clear hN hM
          go_wp2_with (first 
    | ((with_reducible refine' Wl.out ?_; apply k_loads hS); (· exact .mk)))
          replace hS := hS.drew
          refine startL (S := Sx _ []) (by kernel_rfl) hS.sx0 (fun _ _ _ _ => trivial) (fun hHeld => ?_)
          focus (refine takeN 0 (v := ?_) rfl (by kernel_rfl) ?_ ?_; rotate_left; focus (intro w hSw; clear hSw; go_simp; try with_reducible rfl))
          try simp only [Act.put, nz1, nz2, nz3]
          focus (refine takeN 1 (v := ?_) rfl (by kernel_rfl) ?_ ?_; rotate_left; focus (intro w hSw; clear hSw; go_simp; try with_reducible rfl))
          try simp only [Act.put, nz1, nz2, nz3]
          focus (refine takeN 2 (v := ?_) rfl (by kernel_rfl) ?_ ?_; rotate_left; focus (intro w hSw; clear hSw; go_simp; try with_reducible rfl))
          try simp only [Act.put, nz1, nz2, nz3]
          refine takeN 3 rfl (by kernel_rfl) (yield_loads rfl rowT30 rfl (by (first | (apply FindsX.box; (· (repeat constructor)); (· (repeat constructor)); done) | (refine FindsX.mem (by assumption) ?_; first | rfl | assumption | (simp; done))))) ?_
          try simp only [Act.put, nz1, nz2, nz3]
          focus (refine takeN 4 (v := ?_) rfl (by kernel_rfl) ?_ ?_; rotate_left; focus (intro w hSw; clear hSw; go_simp; try with_reducible rfl))
          try simp only [Act.put, nz1, nz2, nz3]
          focus (refine takeN 5 (v := ?_) rfl (by kernel_rfl) ?_ ?_; rotate_left; focus (intro w hSw; clear hSw; go_simp; try with_reducible rfl))
          try simp only [Act.put, nz1, nz2, nz3]
          focus (refine takeN 6 (v := ?_) rfl (by kernel_rfl) ?_ ?_; rotate_left; focus (intro w hSw; clear hSw; go_simp; try with_reducible rfl))
          try simp only [Act.put, nz1, nz2, nz3]
          refine takeN 7 rfl (by kernel_rfl) (yield_loads rfl rowT30 rfl (by (first | (apply FindsX.box; (· (repeat constructor)); (· (repeat constructor)); done) | (refine FindsX.mem (by assumption) ?_; first | rfl | assumption | (simp; done))))) ?_
          try simp only [Act.put, nz1, nz2, nz3]
          focus (refine takeN 8 (v := ?_) rfl (by kernel_rfl) ?_ ?_; rotate_left; focus (intro w hSw; clear hSw; go_simp; try with_reducible rfl))
          try simp only [Act.put, nz1, nz2, nz3]
          refine wpAnyH_done (by kernel_rfl) ?_ _
          refine NoPanic.normal ?_
          all_goals go_wp2_with fail
          go_ret
          exact ⟨_, m, rfl, vbool (by have := HM.out; simp [this]), hS.done⟩
      · obtain rfl : k = a.length := by omega
        go_wp2_with fail
        go_ret
        have := hP.out
        rw [List.take_length, HLn.out, List.take_length] at this
        exact ⟨_, m, rfl, vbool (by simp [this]), hS.done⟩
  · have hne : decide (a = b) = false := decide_eq_false fun e => hl (by rw [e])
    rw [hne]
    have hl2 : ((a.length : Int) != b.length) = true := by simp; omega
    have hl1 : ¬ (a.length : Int) = b.length := by omega
    clear hl
    go_enter Try.func15, Try.ntmps15
    go_wp2_with fail
    go_ret
    exact ⟨_, m, rfl, rfl, hS⟩
end Go.Proofs.Ytlkdjmpkapeppaa
/- The law's live of layer 16. -/
namespace Go.Proofs.Ytlkdjmpkapeppaa
set_option linter.unusedVariables false
set_option linter.unusedSimpArgs false
open Go.RowKit Go.Shelf
section
variable {P : Program} {ops : Array Oper} {X : List Nat} {w0 w : World} {m0 m : Mem} {es : List Ent} {o : Oper} {a : Act} {K : Act → World → Prop} {Q : Exit → Act → World → Prop}
variable {rest : List Oper} {dst : Option Tmp} {rt : TypeId} {pos : String} {af : Array Edge} {E : Prop} {g : Nat × Bool}
theorem wg_lit {t e : TypeId} {size bytes : Nat} {z : Value} (hE : Elem P t e size bytes z) {len : Nat} {parts : Array (Nat × Operand)} (hS : St X w0 m0 w es m) {cs : List Value} (hw : Region.wanted ⟨dst, .buildSlice t len parts, rt, pos, af, some g⟩ (yielded ops a.tmps) = true) (hlen : len * size ≤ 16777216) (hpos : len * size ≠ 0)
    (hf : Instr.fill (fun i => some (i * size, size)) ((Array.range (len * size)).map (z.cells[· % z.cells.size]!)) (parts.map fun (i, x) => (i, a.eval x)).toList = some cs.toArray)
    (h : ∀ w' b, St X w0 m0 w' (.box b cs :: es) m → wpList P ops Q rest (a.put dst (.slice (some ⟨b, 0, none⟩) len len)) w') : Wl P ops Q (⟨dst, .buildSlice t len parts, rt, pos, af, some g⟩ :: rest) a w :=
  ⟨wpList_step fun K hK => step_guard hw (op_lit hS hE len parts rfl hlen hpos cs hf fun w' b hw => hK _ _ (h w' b hw))⟩
end
theorem badd_v (m : Mem) (w : World) (hm : m.In w) (v : Value) (xs : List Hit) (hr : hitL.list.rd m [v] xs) (K : Int) (hK : InK .i64 K) (d i : Int) (hd : InK .i64 d) (hi : InK .i64 i) :
    Calls Try.prog 12 #[v, .int .i64 K, .agg #[.int .i64 d, .int .i64 i]] w (OwnHE w m (addH xs K ⟨d, i⟩) (addX xs K ⟨d, i⟩)) := badd_c m w hm v xs hr K hK ⟨d, i⟩ ⟨hd, hi⟩
theorem less_v (m : Mem) (w : World) (hm : m.In w) (d1 i1 d2 i2 : Int) :
    Calls Try.prog 16 #[.agg #[.int .i64 d1, .int .i64 i1], .agg #[.int .i64 d2, .int .i64 i2]] w (Ret w m fun v _ => v = .bool (decide ((⟨d1, i1⟩ : Hit).lt ⟨d2, i2⟩))) := less_c m w hm ⟨d1, i1⟩ ⟨d2, i2⟩
theorem two_hits {m : Mem} {b : Nat} {x y : Hit} (h : ∀ j v, [Value.int .i64 x.dist, .int .i64 x.id, .int .i64 y.dist, .int .i64 y.id][j]? = some v → m ⟨b, j, none⟩ = some v) (hx : InK .i64 x.dist ∧ InK .i64 x.id) (hy : InK .i64 y.dist ∧ InK .i64 y.id) : hitL.list.rd m [.slice (some ⟨b, 0, none⟩) 2 2] [x, y] := by
  refine ⟨_, 2, rfl, Nat.le_refl _, by simp [maxLen], by show 2 * 16 ≤ _; decide, fun _ => ⟨b, 0, rfl, fun i z hz => ?_⟩⟩
  match i, hz with
  | 0, hz => cases hz; exact ⟨_, hitL_mk hx.1 hx.2, fun j v hj => by
      have := (List.getElem?_eq_some_iff.1 hj).1
      refine (congrArg m ?_).trans (h j v ?_)
      · simp
      · match j, hj with
        | 0, hj => exact hj
        | 1, hj => exact hj⟩
  | 1, hz => cases hz; exact ⟨_, hitL_mk hy.1 hy.2, fun j v hj => by
      refine (congrArg m ?_).trans (h (2 + j) v ?_)
      · simp [hitL, Lay.by, Lay.prod, Lay.int]
      · match j, hj with
        | 0, hj => exact hj
        | 1, hj => exact hj⟩
theorem el_i64 : Elem Try.prog 45 2 1 8 (.int .i64 0) := ⟨Try.underlying45, by kernel_rfl, rfl, by decide⟩
theorem lv1 : addH [] 2 ⟨5, 0⟩ = [⟨5, 0⟩] := by decide +kernel
theorem lv2 : addH [⟨5, 0⟩] 2 ⟨3, 1⟩ = [⟨5, 0⟩, ⟨3, 1⟩] := by decide +kernel
theorem lv3 : addH [⟨5, 0⟩, ⟨3, 1⟩] 2 ⟨4, 2⟩ = [⟨4, 2⟩, ⟨3, 1⟩] := by decide +kernel
theorem lx1 : addX [] 2 ⟨5, 0⟩ = 0 := by decide +kernel
theorem lx2 : addX [⟨5, 0⟩] 2 ⟨3, 1⟩ = 0 := by decide +kernel
theorem lx3 : addX [⟨5, 0⟩, ⟨3, 1⟩] 2 ⟨4, 2⟩ = 0 := by decide +kernel
theorem ls1 : sortH [⟨4, 2⟩, ⟨3, 1⟩] 2 = [⟨3, 1⟩, ⟨4, 2⟩] := by decide +kernel
theorem ls2 : chkE [⟨4, 2⟩, ⟨3, 1⟩] 2 = 0 := by decide +kernel
set_option maxRecDepth 100000 in
set_option maxHeartbeats 4000000 in
theorem live16_c (m : Mem) (w : World) (hm : m.In w) :
    Calls Try.prog 11 #[] w (Ret w m fun v _ => v = .bool true) := by
  have hS := St.start hm
  have I2 := Lib.hid (inK64 (x := 2) (by decide) (by decide))
  have RL : True := trivial
  go_enter Try.func11, Try.ntmps11
  go_wp2_with (first
    | ((with_reducible refine' Wl.out ?_; apply wl_lit el_i64 (cs := [.int .i64 5, .int .i64 3, .int .i64 4]) hS); (· decide); (· decide); (· kernel_rfl); clear hS; intro w8 b8 hS))
  refine wp_loop_rounds 4 ?_
  iterate 4
    (all_goals first | (rw [rounds_succ]) | skip)
    (all_goals go_wp2_with (first 
    | ((with_reducible refine' Wl.out ?_; apply k_load hS); (· exact .mk))
      | (go_at_call 12; refine (letHE addH_len (badd_v _ _ hS.inw _ _ (by first | exact RL.out | exact Lay.nil_rd _ _) _ I2.out _ _ (inK64 (by decide) (by decide)) (inK64 (by decide) (by decide)))).mono ?_; clear RL; rintro e' w20 ⟨_, m20, rfl, ⟨p20, c20, Y20, E20, HY20, HE20, rfl, RL, _⟩, hk⟩; replace hS := hS.call hk; clear hk; (first | (obtain rfl := HE20.out.trans lx1; obtain rfl := HY20.out.trans lv1) | (obtain rfl := HE20.out.trans lx2; obtain rfl := HY20.out.trans lv2) | (obtain rfl := HE20.out.trans lx3; obtain rfl := HY20.out.trans lv3)); clear HY20 HE20)
      | (go_at_call 14; refine (letHE sortH_len (bsorted_c _ _ hS.inw _ _ RL.out _ I2.out)).mono ?_; rintro e' w29 ⟨_, m29, rfl, ⟨p29, c29, Y29, E29, HY29, HE29, rfl, RS, _⟩, hk⟩; replace hS := hS.call hk; clear hk; obtain rfl := HE29.out.trans ls2; obtain rfl := HY29.out.trans ls1; clear HY29 HE29)
      | ((with_reducible refine' Wl.out ?_; apply wg_lit el_hit (cs := [.int .i64 3, .int .i64 1, .int .i64 4, .int .i64 2]) hS); (· rfl); (· decide); (· decide); (· kernel_rfl); clear hS; intro w38 b38 hS; obtain ⟨m38, hS38, hle38, hb38⟩ := hS.settleBox 0 rfl; replace hS := hS38; clear hS38; have R38 := Lib.hid (two_hits (x := ⟨3, 1⟩) (y := ⟨4, 2⟩) hb38 ⟨inK64 (by decide) (by decide), inK64 (by decide) (by decide)⟩ ⟨inK64 (by decide) (by decide), inK64 (by decide) (by decide)⟩); replace RS := Lib.hid (Lay.mono _ hle38 RS.out); clear hle38 hb38)
      | (go_at_call 15; refine (same16_c _ _ hS.inw _ _ _ _ RS.out R38.out).mono ?_; rintro e' w39 ⟨_, m39, rfl, rfl, hk⟩; replace hS := hS.call hk; clear hk)))
  go_ret
  exact ⟨_, _, rfl, rfl, hS.done⟩
end Go.Proofs.Ytlkdjmpkapeppaa
/- scan: may; look. -/
namespace Go.Proofs.Ytlkdjmpkapeppaa
set_option linter.unusedVariables false
set_option linter.unusedSimpArgs false
open Go.RowKit Go.Shelf
/-- Whether what is asked for may be. -/
def mayP (s : Sl) (q : List Int) (k : Int) : Prop := dirOK s ∧ fineV q ∧ (q.length : Int) = s.dim ∧ 1 ≤ k ∧ k ≤ s.ids.length
noncomputable instance (s : Sl) (q : List Int) (k : Int) : Decidable (mayP s q k) := Classical.propDecidable _
noncomputable def mayE (s : Sl) (q : List Int) (k : Int) : Int := if mayP s q k then 0 else 1
set_option maxRecDepth 100000 in
set_option maxHeartbeats 4000000 in
theorem smay_c (m : Mem) (w : World) (hm : m.In w) (q1 q2 : Option Addr) (c1 c2 : Nat) (s : Sl) (h : slL.rd m [.int .i64 s.dim, .slice q1 s.ids.length c1, .slice q2 s.vecs.length c2] s) (vq : Value) (q : List Int) (hq : vecL.rd m [vq] q) (k : Int) :
    Calls Try.prog 44 #[.agg #[.int .i64 s.dim, .slice q1 s.ids.length c1, .slice q2 s.vecs.length c2], vq, .int .i64 k] w (Ret w m fun v _ => v = .int .i64 (mayE s q k)) := by
  have hS := St.start hm
  have A0 := Lib.hid h
  have A1 := Lib.hid hq
  obtain ⟨p, c, rfl, _⟩ := Lay.list_open hq
  clear h hq
  have bad : ¬ mayP s q k → Hid (mayE s q k = 1) := fun h => if_neg h
  by_cases d1 : ¬ dirOK s
  · have hE := bad fun h => d1 h.1
    have h1 : Hid (chkS s = 1) := if_neg d1
    clear bad d1
    go_enter Try.func44, Try.ntmps44
    go_wp2_with (first
    | ((with_reducible refine' Wl.out ?_; apply k_box hS); (· exact .mk); clear hS; intro _ _ hS)
    | ((with_reducible refine' Wl.out ?_; apply k_load hS); (· exact .mk))
    | ((with_reducible refine' Wl.out ?_; apply k_loads hS); (· exact .mk))
    | go_skip
    | ((with_reducible refine' Wl.out ?_; apply kg_load hS); iterate 2 (· exact .mk))
    | ((with_reducible refine' Wl.out ?_; apply kg_loads hS); iterate 2 (· exact .mk))
    | ((with_reducible refine' Wl.out ?_; refine' wg_case ?_ ?_) <;> (intro hgW; (try (have hg2 := hgW; simp [go_sem] at hg2)); (first | (exfalso; assumption) | ((with_reducible refine' Wl.out ?_; apply k_no hgW)) | ((with_reducible refine' Wl.out ?_; apply kg_load hS ⟨hgW⟩); (· exact .mk)) | ((with_reducible refine' Wl.out ?_; apply kg_loads hS ⟨hgW⟩); (· exact .mk))); clear hgW))
    | (go_at_call 64; (fail_if_success (clear Mk8)); refine (letInt (scheck_c _ _ hS.inw _ _ _ _ (by first | exact A0.out | exact A1.out | exact dkL_dry A0.out | exact dkL_dry A1.out | exact Lay.nil_rd _ _))).mono ?_; rintro e' w8 ⟨_, m8, rfl, ⟨E8, HE8, rfl⟩, hk⟩; replace hS := hS.call hk; (try replace A0 := Lib.hid (Lay.mono _ hk.le A0.out)); (try replace A1 := Lib.hid (Lay.mono _ hk.le A1.out)); clear hk; obtain rfl : E8 = 1 := HE8.out.trans h1.out; have Mk8 := True.intro))
    go_ret
    exact ⟨_, _, rfl, by rw [hE.out]; rfl, hS.done⟩
  replace d1 := Classical.not_not.1 d1
  have h1 : Hid (chkS s = 0) := if_pos d1
  by_cases d2 : ¬ fineV q
  · have hE := bad fun h => d2 h.2.1
    have h2 : Hid (chkV q = 1) := if_neg d2
    clear bad d1 d2
    go_enter Try.func44, Try.ntmps44
    go_wp2_with (first
    | ((with_reducible refine' Wl.out ?_; apply k_box hS); (· exact .mk); clear hS; intro _ _ hS)
    | ((with_reducible refine' Wl.out ?_; apply k_load hS); (· exact .mk))
    | ((with_reducible refine' Wl.out ?_; apply k_loads hS); (· exact .mk))
    | go_skip
    | ((with_reducible refine' Wl.out ?_; apply kg_load hS); iterate 2 (· exact .mk))
    | ((with_reducible refine' Wl.out ?_; apply kg_loads hS); iterate 2 (· exact .mk))
    | ((with_reducible refine' Wl.out ?_; refine' wg_case ?_ ?_) <;> (intro hgW; (try (have hg2 := hgW; simp [go_sem] at hg2)); (first | (exfalso; assumption) | ((with_reducible refine' Wl.out ?_; apply k_no hgW)) | ((with_reducible refine' Wl.out ?_; apply kg_load hS ⟨hgW⟩); (· exact .mk)) | ((with_reducible refine' Wl.out ?_; apply kg_loads hS ⟨hgW⟩); (· exact .mk))); clear hgW))
    | (go_at_call 64; (fail_if_success (clear Mk8)); refine (letInt (scheck_c _ _ hS.inw _ _ _ _ (by first | exact A0.out | exact A1.out | exact dkL_dry A0.out | exact dkL_dry A1.out | exact Lay.nil_rd _ _))).mono ?_; rintro e' w8 ⟨_, m8, rfl, ⟨E8, HE8, rfl⟩, hk⟩; replace hS := hS.call hk; (try replace A0 := Lib.hid (Lay.mono _ hk.le A0.out)); (try replace A1 := Lib.hid (Lay.mono _ hk.le A1.out)); clear hk; obtain rfl : E8 = 0 := HE8.out.trans h1.out; have Mk8 := True.intro)
    | (go_at_call 50; (fail_if_success (clear Mk12)); refine (letInt (vcheck_c _ _ hS.inw _ _ (by first | exact A0.out | exact A1.out | exact dkL_dry A0.out | exact dkL_dry A1.out | exact Lay.nil_rd _ _))).mono ?_; rintro e' w12 ⟨_, m12, rfl, ⟨E12, HE12, rfl⟩, hk⟩; replace hS := hS.call hk; (try replace A0 := Lib.hid (Lay.mono _ hk.le A0.out)); (try replace A1 := Lib.hid (Lay.mono _ hk.le A1.out)); clear hk; obtain rfl : E12 = 1 := HE12.out.trans h2.out; have Mk12 := True.intro))
    go_ret
    exact ⟨_, _, rfl, by rw [hE.out]; rfl, hS.done⟩
  replace d2 := Classical.not_not.1 d2
  have h2 : Hid (chkV q = 0) := if_pos d2
  by_cases d3 : ¬ (q.length : Int) = s.dim
  · have hE := bad fun h => d3 h.2.2.1
    have h3 : ((q.length : Int) != s.dim) = true := by simp [d3]
    clear bad d1 d2 d3
    go_enter Try.func44, Try.ntmps44
    go_wp2_with (first
    | ((with_reducible refine' Wl.out ?_; apply k_box hS); (· exact .mk); clear hS; intro _ _ hS)
    | ((with_reducible refine' Wl.out ?_; apply k_load hS); (· exact .mk))
    | ((with_reducible refine' Wl.out ?_; apply k_loads hS); (· exact .mk))
    | go_skip
    | ((with_reducible refine' Wl.out ?_; apply kg_load hS); iterate 2 (· exact .mk))
    | ((with_reducible refine' Wl.out ?_; apply kg_loads hS); iterate 2 (· exact .mk))
    | ((with_reducible refine' Wl.out ?_; refine' wg_case ?_ ?_) <;> (intro hgW; (try (have hg2 := hgW; simp [go_sem] at hg2)); (first | (exfalso; assumption) | ((with_reducible refine' Wl.out ?_; apply k_no hgW)) | ((with_reducible refine' Wl.out ?_; apply kg_load hS ⟨hgW⟩); (· exact .mk)) | ((with_reducible refine' Wl.out ?_; apply kg_loads hS ⟨hgW⟩); (· exact .mk))); clear hgW))
    | (go_at_call 64; (fail_if_success (clear Mk8)); refine (letInt (scheck_c _ _ hS.inw _ _ _ _ (by first | exact A0.out | exact A1.out | exact dkL_dry A0.out | exact dkL_dry A1.out | exact Lay.nil_rd _ _))).mono ?_; rintro e' w8 ⟨_, m8, rfl, ⟨E8, HE8, rfl⟩, hk⟩; replace hS := hS.call hk; (try replace A0 := Lib.hid (Lay.mono _ hk.le A0.out)); (try replace A1 := Lib.hid (Lay.mono _ hk.le A1.out)); clear hk; obtain rfl : E8 = 0 := HE8.out.trans h1.out; have Mk8 := True.intro)
    | (go_at_call 50; (fail_if_success (clear Mk12)); refine (letInt (vcheck_c _ _ hS.inw _ _ (by first | exact A0.out | exact A1.out | exact dkL_dry A0.out | exact dkL_dry A1.out | exact Lay.nil_rd _ _))).mono ?_; rintro e' w12 ⟨_, m12, rfl, ⟨E12, HE12, rfl⟩, hk⟩; replace hS := hS.call hk; (try replace A0 := Lib.hid (Lay.mono _ hk.le A0.out)); (try replace A1 := Lib.hid (Lay.mono _ hk.le A1.out)); clear hk; obtain rfl : E12 = 0 := HE12.out.trans h2.out; have Mk12 := True.intro))
    go_ret
    exact ⟨_, _, rfl, by rw [hE.out]; rfl, hS.done⟩
  replace d3 := Classical.not_not.1 d3
  have h3 : ((q.length : Int) != s.dim) = false := by simp [d3]
  by_cases d4 : k < 1
  · have hE := bad fun h => by have := h.2.2.2.1; omega
    clear bad d1 d2 d3
    go_enter Try.func44, Try.ntmps44
    go_wp2_with (first
    | ((with_reducible refine' Wl.out ?_; apply k_box hS); (· exact .mk); clear hS; intro _ _ hS)
    | ((with_reducible refine' Wl.out ?_; apply k_load hS); (· exact .mk))
    | ((with_reducible refine' Wl.out ?_; apply k_loads hS); (· exact .mk))
    | go_skip
    | ((with_reducible refine' Wl.out ?_; apply kg_load hS); iterate 2 (· exact .mk))
    | ((with_reducible refine' Wl.out ?_; apply kg_loads hS); iterate 2 (· exact .mk))
    | ((with_reducible refine' Wl.out ?_; refine' wg_case ?_ ?_) <;> (intro hgW; (try (have hg2 := hgW; simp [go_sem] at hg2)); (first | (exfalso; assumption) | ((with_reducible refine' Wl.out ?_; apply k_no hgW)) | ((with_reducible refine' Wl.out ?_; apply kg_load hS ⟨hgW⟩); (· exact .mk)) | ((with_reducible refine' Wl.out ?_; apply kg_loads hS ⟨hgW⟩); (· exact .mk))); clear hgW))
    | (go_at_call 64; (fail_if_success (clear Mk8)); refine (letInt (scheck_c _ _ hS.inw _ _ _ _ (by first | exact A0.out | exact A1.out | exact dkL_dry A0.out | exact dkL_dry A1.out | exact Lay.nil_rd _ _))).mono ?_; rintro e' w8 ⟨_, m8, rfl, ⟨E8, HE8, rfl⟩, hk⟩; replace hS := hS.call hk; (try replace A0 := Lib.hid (Lay.mono _ hk.le A0.out)); (try replace A1 := Lib.hid (Lay.mono _ hk.le A1.out)); clear hk; obtain rfl : E8 = 0 := HE8.out.trans h1.out; have Mk8 := True.intro)
    | (go_at_call 50; (fail_if_success (clear Mk12)); refine (letInt (vcheck_c _ _ hS.inw _ _ (by first | exact A0.out | exact A1.out | exact dkL_dry A0.out | exact dkL_dry A1.out | exact Lay.nil_rd _ _))).mono ?_; rintro e' w12 ⟨_, m12, rfl, ⟨E12, HE12, rfl⟩, hk⟩; replace hS := hS.call hk; (try replace A0 := Lib.hid (Lay.mono _ hk.le A0.out)); (try replace A1 := Lib.hid (Lay.mono _ hk.le A1.out)); clear hk; obtain rfl : E12 = 0 := HE12.out.trans h2.out; have Mk12 := True.intro))
    go_ret
    exact ⟨_, _, rfl, by rw [hE.out]; rfl, hS.done⟩
  by_cases d5 : (s.ids.length : Int) < k
  · have hE := bad fun h => by have := h.2.2.2.2; omega
    clear bad d1 d2 d3
    go_enter Try.func44, Try.ntmps44
    go_wp2_with (first
    | ((with_reducible refine' Wl.out ?_; apply k_box hS); (· exact .mk); clear hS; intro _ _ hS)
    | ((with_reducible refine' Wl.out ?_; apply k_load hS); (· exact .mk))
    | ((with_reducible refine' Wl.out ?_; apply k_loads hS); (· exact .mk))
    | go_skip
    | ((with_reducible refine' Wl.out ?_; apply kg_load hS); iterate 2 (· exact .mk))
    | ((with_reducible refine' Wl.out ?_; apply kg_loads hS); iterate 2 (· exact .mk))
    | ((with_reducible refine' Wl.out ?_; refine' wg_case ?_ ?_) <;> (intro hgW; (try (have hg2 := hgW; simp [go_sem] at hg2)); (first | (exfalso; assumption) | ((with_reducible refine' Wl.out ?_; apply k_no hgW)) | ((with_reducible refine' Wl.out ?_; apply kg_load hS ⟨hgW⟩); (· exact .mk)) | ((with_reducible refine' Wl.out ?_; apply kg_loads hS ⟨hgW⟩); (· exact .mk))); clear hgW))
    | (go_at_call 64; (fail_if_success (clear Mk8)); refine (letInt (scheck_c _ _ hS.inw _ _ _ _ (by first | exact A0.out | exact A1.out | exact dkL_dry A0.out | exact dkL_dry A1.out | exact Lay.nil_rd _ _))).mono ?_; rintro e' w8 ⟨_, m8, rfl, ⟨E8, HE8, rfl⟩, hk⟩; replace hS := hS.call hk; (try replace A0 := Lib.hid (Lay.mono _ hk.le A0.out)); (try replace A1 := Lib.hid (Lay.mono _ hk.le A1.out)); clear hk; obtain rfl : E8 = 0 := HE8.out.trans h1.out; have Mk8 := True.intro)
    | (go_at_call 50; (fail_if_success (clear Mk12)); refine (letInt (vcheck_c _ _ hS.inw _ _ (by first | exact A0.out | exact A1.out | exact dkL_dry A0.out | exact dkL_dry A1.out | exact Lay.nil_rd _ _))).mono ?_; rintro e' w12 ⟨_, m12, rfl, ⟨E12, HE12, rfl⟩, hk⟩; replace hS := hS.call hk; (try replace A0 := Lib.hid (Lay.mono _ hk.le A0.out)); (try replace A1 := Lib.hid (Lay.mono _ hk.le A1.out)); clear hk; obtain rfl : E12 = 0 := HE12.out.trans h2.out; have Mk12 := True.intro))
    go_ret
    exact ⟨_, _, rfl, by rw [hE.out]; rfl, hS.done⟩
  have hE : Hid (mayE s q k = 0) := if_pos ⟨d1, d2, d3, by omega, by omega⟩
  clear bad d1 d2 d3
  go_enter Try.func44, Try.ntmps44
  go_wp2_with (first
    | ((with_reducible refine' Wl.out ?_; apply k_box hS); (· exact .mk); clear hS; intro _ _ hS)
    | ((with_reducible refine' Wl.out ?_; apply k_load hS); (· exact .mk))
    | ((with_reducible refine' Wl.out ?_; apply k_loads hS); (· exact .mk))
    | go_skip
    | ((with_reducible refine' Wl.out ?_; apply kg_load hS); iterate 2 (· exact .mk))
    | ((with_reducible refine' Wl.out ?_; apply kg_loads hS); iterate 2 (· exact .mk))
    | ((with_reducible refine' Wl.out ?_; refine' wg_case ?_ ?_) <;> (intro hgW; (try (have hg2 := hgW; simp [go_sem] at hg2)); (first | (exfalso; assumption) | ((with_reducible refine' Wl.out ?_; apply k_no hgW)) | ((with_reducible refine' Wl.out ?_; apply kg_load hS ⟨hgW⟩); (· exact .mk)) | ((with_reducible refine' Wl.out ?_; apply kg_loads hS ⟨hgW⟩); (· exact .mk))); clear hgW))
    | (go_at_call 64; (fail_if_success (clear Mk8)); refine (letInt (scheck_c _ _ hS.inw _ _ _ _ (by first | exact A0.out | exact A1.out | exact dkL_dry A0.out | exact dkL_dry A1.out | exact Lay.nil_rd _ _))).mono ?_; rintro e' w8 ⟨_, m8, rfl, ⟨E8, HE8, rfl⟩, hk⟩; replace hS := hS.call hk; (try replace A0 := Lib.hid (Lay.mono _ hk.le A0.out)); (try replace A1 := Lib.hid (Lay.mono _ hk.le A1.out)); clear hk; obtain rfl : E8 = 0 := HE8.out.trans h1.out; have Mk8 := True.intro)
    | (go_at_call 50; (fail_if_success (clear Mk12)); refine (letInt (vcheck_c _ _ hS.inw _ _ (by first | exact A0.out | exact A1.out | exact dkL_dry A0.out | exact dkL_dry A1.out | exact Lay.nil_rd _ _))).mono ?_; rintro e' w12 ⟨_, m12, rfl, ⟨E12, HE12, rfl⟩, hk⟩; replace hS := hS.call hk; (try replace A0 := Lib.hid (Lay.mono _ hk.le A0.out)); (try replace A1 := Lib.hid (Lay.mono _ hk.le A1.out)); clear hk; obtain rfl : E12 = 0 := HE12.out.trans h2.out; have Mk12 := True.intro))
  go_ret
  exact ⟨_, _, rfl, by rw [hE.out]; rfl, hS.done⟩
end Go.Proofs.Ytlkdjmpkapeppaa
/- scan: look. -/
namespace Go.Proofs.Ytlkdjmpkapeppaa
set_option linter.unusedVariables false
set_option linter.unusedSimpArgs false
open Go.RowKit Go.Shelf
/-- A finder's cells. -/
abbrev fiC (s : Sl) (q1 : Option Addr) (c1 : Nat) (q2 : Option Addr) (c2 : Nat) (q : List Int) (p : Option Addr) (c : Nat) (K : Int) (kp : Option Addr) (kl kc : Nat) (n : Nat) : List Value :=
  [.int .i64 s.dim, .slice q1 s.ids.length c1, .slice q2 s.vecs.length c2, .slice p q.length c, .int .i64 K, .slice kp kl kc, .int .i64 n]
theorem dN_in {a b : List Int} (ha : In16 a) (hb : In16 b) : 0 ≤ dN a b ∧ dN a b ≤ 64 * 4294836225 := by
  unfold dN
  split
  · rename_i h
    have h1 := distN_le ha hb a.length
    have := h.1.2.1
    unfold distV
    generalize distN a b a.length = t at *
    omega
  · omega
set_option maxRecDepth 100000 in
set_option maxHeartbeats 4000000 in
theorem look_c {X : List Nat} {w0 w : World} {m0 m : Mem} {b : Nat} {s : Sl} {q1 q2 p kp : Option Addr} {c1 c2 c kc n : Nat} {q : List Int} {K : Int} {l : List Hit}
    (hS : St X w0 m0 w [.box b (fiC s q1 c1 q2 c2 q p c K kp l.length kc n)] m)
    (hs : slL.rd m [.int .i64 s.dim, .slice q1 s.ids.length c1, .slice q2 s.vecs.length c2] s) (hq : vecL.rd m [.slice p q.length c] q) (hl : hitL.list.rd m [.slice kp l.length kc] l) (hK : InK .i64 K) (hn : n ≤ 1000)
    (i : Nat) (hi : i < s.ids.length) (hi2 : i < s.vecs.length) (hE : dE (s.vecs.getD i []) q = 0) (hX : addX l K ⟨dN (s.vecs.getD i []) q, s.ids.getD i 0⟩ = 0) :
    Calls Try.prog 65 #[.pointer (some ⟨b, 0, none⟩), .int .i64 i] w fun e w' => e = .returned (.int .i64 0) ∧ ∃ kp' kc' l' m', Hid (l' = addH l K ⟨dN (s.vecs.getD i []) q, s.ids.getD i 0⟩) ∧ m.Le m' ∧ Hid (hitL.list.rd m' [.slice kp' l'.length kc'] l') ∧
      St X w0 m0 w' [.box b (fiC s q1 c1 q2 c2 q p c K kp' l'.length kc' (n + 1))] m' := by
  obtain ⟨_, _, _, _, e, hd, h1, h2⟩ := slL_open hs
  cases e
  obtain ⟨_, _, e1, _, _, _, r1⟩ := Lay.list_open h1
  obtain ⟨_, _, e2, _, _, _, r2⟩ := Lay.list_open h2
  cases e1
  cases e2
  obtain ⟨bi, oi, rfl, hcx, hkx⟩ := r1.intAt i hi
  obtain ⟨bv, ov, qv, cv, rfl, hcv, hrd⟩ := r2.listAt i hi2
  have HD0 := dN_in (ints_in hrd) (ints_in hq)
  have HV := Lib.hid hrd
  have HQ := Lib.hid hq
  have HL := Lib.hid hl
  have HKK := Lib.hid hK
  have HKX := Lib.hid hkx
  have hiz : (i : Int) < s.ids.length := by omega
  have hiz2 : (i : Int) < s.vecs.length := by omega
  have hEE := Lib.hid hE
  have hXX := Lib.hid hX
  clear hs hq hl h1 h2 r1 r2 hrd hkx hE hX hK
  generalize s.ids.getD i 0 = x at *
  obtain ⟨D, hD⟩ : ∃ D, dN (s.vecs.getD i []) q = D := ⟨_, rfl⟩
  have HDI : Hid (InK .i64 D) := by rw [← hD]; exact inK64 (by omega) (by omega)
  rw [hD] at hXX ⊢
  have HDD := Lib.hid hD
  clear hD HD0
  generalize s.vecs.getD i [] = v at *
  go_enter Try.func65, Try.ntmps65
  go_wp2_with (first
    | ((with_reducible refine' Wl.out ?_; apply k_load hS); (· exact .mk))
    | ((with_reducible refine' Wl.out ?_; apply k_store hS); (· exact .mk); clear hS; intro ws hS)
    | ((with_reducible refine' Wl.out ?_; apply k_storeR hS); (· exact .mk); clear hS; intro ws hS))
  replace hS := hS.drew
  refine startL (S := Sx _ [(b, _)]) (by kernel_rfl) (hS.sx0.cons hS (by (repeat constructor))) (fun _ _ _ _ => trivial) (fun hHeld => ?_)
  focus (refine takeN 0 (v := ?_) rfl (by kernel_rfl) ?_ ?_; rotate_left; focus (intro w hSw; clear hSw; go_simp; try with_reducible rfl))
  try simp only [Act.put, nz1, nz2, nz3]
  focus (refine takeN 1 (v := ?_) rfl (by kernel_rfl) ?_ ?_; rotate_left; focus (intro w hSw; clear hSw; go_simp; try with_reducible rfl))
  try simp only [Act.put, nz1, nz2, nz3]
  focus (refine takeN 2 (v := ?_) rfl (by kernel_rfl) ?_ ?_; rotate_left; focus (intro w hSw; clear hSw; go_simp; try with_reducible rfl))
  try simp only [Act.put, nz1, nz2, nz3]
  focus (refine takeN 3 (v := ?_) rfl (by kernel_rfl) ?_ ?_; rotate_left; focus (intro w hSw; clear hSw; go_simp; try with_reducible rfl))
  try simp only [Act.put, nz1, nz2, nz3]
  refine takeN 4 rfl (by kernel_rfl) (yield_load rfl Try.underlying46 rfl rfl (by (first | (apply FindX.box; (· (repeat constructor)); rfl) | exact FindX.mem (by assumption)))) ?_
  try simp only [Act.put, nz1, nz2, nz3]
  focus (refine takeN 5 (v := ?_) rfl (by kernel_rfl) ?_ ?_; rotate_left; focus (intro w hSw; clear hSw; go_simp; try with_reducible rfl))
  try simp only [Act.put, nz1, nz2, nz3]
  focus (refine takeN 6 (v := ?_) rfl (by kernel_rfl) ?_ ?_; rotate_left; focus (intro w hSw; clear hSw; go_simp; try with_reducible rfl))
  try simp only [Act.put, nz1, nz2, nz3]
  refine takeN 7 rfl (by kernel_rfl) (yield_load rfl Try.underlying50 rfl rfl (by (first | (apply FindX.box; (· (repeat constructor)); rfl) | exact FindX.mem (by assumption)))) ?_
  try simp only [Act.put, nz1, nz2, nz3]
  focus (refine takeN 8 (v := ?_) rfl (by kernel_rfl) ?_ ?_; rotate_left; focus (intro w hSw; clear hSw; go_simp; try with_reducible rfl))
  try simp only [Act.put, nz1, nz2, nz3]
  focus (refine takeN 9 (v := ?_) rfl (by kernel_rfl) ?_ ?_; rotate_left; focus (intro w hSw; clear hSw; go_simp; try with_reducible rfl))
  try simp only [Act.put, nz1, nz2, nz3]
  focus (refine takeN 10 (v := ?_) rfl (by kernel_rfl) ?_ ?_; rotate_left; focus (intro w hSw; clear hSw; go_simp; try with_reducible rfl))
  try simp only [Act.put, nz1, nz2, nz3]
  refine takeN 11 rfl (by kernel_rfl) (yield_load rfl Try.underlying50 rfl rfl (by (first | (apply FindX.box; (· (repeat constructor)); rfl) | exact FindX.mem (by assumption)))) ?_
  try simp only [Act.put, nz1, nz2, nz3]
  refine wpAnyH_ready (rs := [12]) (by kernel_rfl) (by simp) ?_
  refine consL 12 rfl (fun K hK => ?_) AllReadyH.nil
  rw [if_pos (by rfl)]; go_simp; refine (vdist_c m _ hS.inw _ _ _ _ HV.out HQ.out).mono ?_; rintro e' w20 ⟨_, m20, rfl, rfl, hk⟩; replace hS := hS.grow (grownBy_of_below hk.below); clear hk; rw [HDD.out, hEE.out]; go_wp2_with fail
  refine hK.out _ _ (by first | exact (hS.sx0.cons hS (by (repeat constructor))) | exact Sx.le (by assumption) (hS.sx0.cons hS (by (repeat constructor)))) (fun hHeld => ?_)
  clear hK K
  try simp only [Act.put, nz1, nz2, nz3]
  focus (refine takeN 13 (v := ?_) rfl (by kernel_rfl) ?_ ?_; rotate_left; focus (intro w hSw; clear hSw; go_simp; try with_reducible rfl))
  try simp only [Act.put, nz1, nz2, nz3]
  focus (refine takeN 14 (v := ?_) rfl (by kernel_rfl) ?_ ?_; rotate_left; focus (intro w hSw; clear hSw; go_simp; try with_reducible rfl))
  try simp only [Act.put, nz1, nz2, nz3]
  focus (refine takeN 15 (v := ?_) rfl (by kernel_rfl) ?_ ?_; rotate_left; focus (intro w hSw; clear hSw; go_simp; try with_reducible rfl))
  try simp only [Act.put, nz1, nz2, nz3]
  focus (refine takeN 16 (v := ?_) rfl (by kernel_rfl) ?_ ?_; rotate_left; focus (intro w hSw; clear hSw; go_simp; try with_reducible rfl))
  try simp only [Act.put, nz1, nz2, nz3]
  focus (refine takeN 17 (v := ?_) rfl (by kernel_rfl) ?_ ?_; rotate_left; focus (intro w hSw; clear hSw; go_simp; try with_reducible rfl))
  try simp only [Act.put, nz1, nz2, nz3]
  refine wpAnyH_done (by kernel_rfl) ?_ _
  refine NoPanic.normal ?_
  all_goals
    go_wp2_with (first
    | ((with_reducible refine' Wl.out ?_; apply k_load hS); (· exact .mk))
    | ((with_reducible refine' Wl.out ?_; apply k_store hS); (· exact .mk); clear hS; intro ws hS)
    | ((with_reducible refine' Wl.out ?_; apply k_storeR hS); (· exact .mk); clear hS; intro ws hS))
  all_goals
    replace hS := hS.drew
    refine startL (S := Sx _ []) (by kernel_rfl) hS.sx0 (fun _ _ _ _ => trivial) (fun hHeld => ?_)
    focus (refine takeN 0 (v := ?_) rfl (by kernel_rfl) ?_ ?_; rotate_left; focus (intro w hSw; clear hSw; go_simp; try with_reducible rfl))
    try simp only [Act.put, nz1, nz2, nz3]
    focus (refine takeN 1 (v := ?_) rfl (by kernel_rfl) ?_ ?_; rotate_left; focus (intro w hSw; clear hSw; go_simp; try with_reducible rfl))
    try simp only [Act.put, nz1, nz2, nz3]
    focus (refine takeN 2 (v := ?_) rfl (by kernel_rfl) ?_ ?_; rotate_left; focus (intro w hSw; clear hSw; go_simp; try with_reducible rfl))
    try simp only [Act.put, nz1, nz2, nz3]
    focus (refine takeN 3 (v := ?_) rfl (by kernel_rfl) ?_ ?_; rotate_left; focus (intro w hSw; clear hSw; go_simp; try with_reducible rfl))
    try simp only [Act.put, nz1, nz2, nz3]
    focus (refine takeN 5 (v := ?_) rfl (by kernel_rfl) ?_ ?_; rotate_left; focus (intro w hSw; clear hSw; go_simp; try with_reducible rfl))
    try simp only [Act.put, nz1, nz2, nz3]
    focus (refine takeN 6 (v := ?_) rfl (by kernel_rfl) ?_ ?_; rotate_left; focus (intro w hSw; clear hSw; go_simp; try with_reducible rfl))
    try simp only [Act.put, nz1, nz2, nz3]
    focus (refine takeN 7 (v := ?_) rfl (by kernel_rfl) ?_ ?_; rotate_left; focus (intro w hSw; clear hSw; go_simp; try with_reducible rfl))
    try simp only [Act.put, nz1, nz2, nz3]
    focus (refine takeN 9 (v := ?_) rfl (by kernel_rfl) ?_ ?_; rotate_left; focus (intro w hSw; clear hSw; go_simp; try with_reducible rfl))
    try simp only [Act.put, nz1, nz2, nz3]
    focus (refine takeN 10 (v := ?_) rfl (by kernel_rfl) ?_ ?_; rotate_left; focus (intro w hSw; clear hSw; go_simp; try with_reducible rfl))
    try simp only [Act.put, nz1, nz2, nz3]
    focus (refine takeN 11 (v := ?_) rfl (by kernel_rfl) ?_ ?_; rotate_left; focus (intro w hSw; clear hSw; go_simp; try with_reducible rfl))
    try simp only [Act.put, nz1, nz2, nz3]
    focus (refine takeN 12 (v := ?_) rfl (by kernel_rfl) ?_ ?_; rotate_left; focus (intro w hSw; clear hSw; go_simp; try with_reducible rfl))
    try simp only [Act.put, nz1, nz2, nz3]
    focus (refine takeN 13 (v := ?_) rfl (by kernel_rfl) ?_ ?_; rotate_left; focus (intro w hSw; clear hSw; go_simp; try with_reducible rfl))
    try simp only [Act.put, nz1, nz2, nz3]
    focus (refine takeN 15 (v := ?_) rfl (by kernel_rfl) ?_ ?_; rotate_left; focus (intro w hSw; clear hSw; go_simp; try with_reducible rfl))
    try simp only [Act.put, nz1, nz2, nz3]
    refine wpAnyH_ready (rs := [4, 8, 14]) (by kernel_rfl) (by simp) ?_
    refine consL 4 rfl (fun K hK => ?_) (consL 8 rfl (fun K hK => ?_) (consL 14 rfl (fun K hK => ?_) AllReadyH.nil))
    rotate_right
    focus
      (with_reducible apply s_load hS); (· exact Try.underlying45); (· exact rfl); (· exact rfl); (· (first | (apply Find.box; (· (repeat constructor)); rfl) | exact Find.mem (by assumption) | (apply Find.row; (· (repeat constructor)); assumption)))
      refine hK.out _ _ (by first | exact hS.sx0 | exact Sx.le (by assumption) hS.sx0) (fun hHeld => ?_)
      clear hK K
      try simp only [Act.put, nz1, nz2, nz3]
      focus (refine takeN 16 (v := ?_) rfl (by kernel_rfl) ?_ ?_; rotate_left; focus (intro w hSw; clear hSw; go_simp; try with_reducible rfl))
      try simp only [Act.put, nz1, nz2, nz3]
      refine takeN 17 rfl (by kernel_rfl) (yield_load rfl Try.underlying2 rfl rfl (by (first | (apply FindX.box; (· (repeat constructor)); rfl) | exact FindX.mem (by assumption)))) ?_
      try simp only [Act.put, nz1, nz2, nz3]
      focus (refine takeN 18 (v := ?_) rfl (by kernel_rfl) ?_ ?_; rotate_left; focus (intro w hSw; clear hSw; go_simp; try with_reducible rfl))
      try simp only [Act.put, nz1, nz2, nz3]
      refine wpAnyH_ready (rs := [4, 8]) (by kernel_rfl) (by simp) ?_
      refine consL 4 rfl (fun K hK => ?_) (consL 8 rfl (fun K hK => ?_) AllReadyH.nil)
      rotate_right
      focus
        (with_reducible apply s_load hS); (· exact Try.underlying3); (· exact rfl); (· exact rfl); (· (first | (apply Find.box; (· (repeat constructor)); rfl) | exact Find.mem (by assumption) | (apply Find.row; (· (repeat constructor)); assumption)))
        refine hK.out _ _ (by first | exact hS.sx0 | exact Sx.le (by assumption) hS.sx0) (fun hHeld => ?_)
        clear hK K
        try simp only [Act.put, nz1, nz2, nz3]
        refine wpAnyH_ready (rs := [4]) (by kernel_rfl) (by simp) ?_
        refine consL 4 rfl (fun K hK => ?_) AllReadyH.nil
        (with_reducible apply s_load hS); (· exact Try.underlying24); (· exact rfl); (· exact rfl); (· (first | (apply Find.box; (· (repeat constructor)); rfl) | exact Find.mem (by assumption) | (apply Find.row; (· (repeat constructor)); assumption)))
        refine hK.out _ _ (by first | exact hS.sx0 | exact Sx.le (by assumption) hS.sx0) (fun hHeld => ?_)
        clear hK K
        try simp only [Act.put, nz1, nz2, nz3]
        refine wpAnyH_ready (rs := [19]) (by kernel_rfl) (by simp) ?_
        refine consL 19 rfl (fun K hK => ?_) AllReadyH.nil
        rw [if_pos (by rfl)]; go_simp; refine (letHE addH_len (badd_v _ _ hS.inw _ _ HL.out _ HKK.out _ _ HDI.out HKX.out)).mono ?_; rintro e' w53 ⟨_, m53, rfl, ⟨p53, c53, Y53, E53, HY53, HE53, rfl, R53, C53⟩, hk⟩; replace hS := hS.call hk; have HLE := Lib.hid hk.le; clear hk; obtain rfl := HE53.out.trans hXX.out; go_wp2_with fail
        refine hK.out _ _ (by first | exact hS.sx0 | exact Sx.le (by assumption) hS.sx0) (fun hHeld => ?_)
        clear hK K
        try simp only [Act.put, nz1, nz2, nz3]
        focus (refine takeN 20 (v := ?_) rfl (by kernel_rfl) ?_ ?_; rotate_left; focus (intro w hSw; clear hSw; go_simp; try with_reducible rfl))
        try simp only [Act.put, nz1, nz2, nz3]
        focus (refine takeN 21 (v := ?_) rfl (by kernel_rfl) ?_ ?_; rotate_left; focus (intro w hSw; clear hSw; go_simp; try with_reducible rfl))
        try simp only [Act.put, nz1, nz2, nz3]
        focus (refine takeN 22 (v := ?_) rfl (by kernel_rfl) ?_ ?_; rotate_left; focus (intro w hSw; clear hSw; go_simp; try with_reducible rfl))
        try simp only [Act.put, nz1, nz2, nz3]
        focus (refine takeN 23 (v := ?_) rfl (by kernel_rfl) ?_ ?_; rotate_left; focus (intro w hSw; clear hSw; go_simp; try with_reducible rfl))
        try simp only [Act.put, nz1, nz2, nz3]
        focus (refine takeN 24 (v := ?_) rfl (by kernel_rfl) ?_ ?_; rotate_left; focus (intro w hSw; clear hSw; go_simp; try with_reducible rfl))
        try simp only [Act.put, nz1, nz2, nz3]
        refine wpAnyH_ready (rs := [25]) (by kernel_rfl) (by simp) ?_
        refine consL 25 rfl (fun K hK => ?_) AllReadyH.nil
        (with_reducible apply s_store hS); (· exact rowT24); (· exact rfl); (· (first | (go_simp; done) | (go_simp; with_reducible rfl))); (· (first | rfl | assumption | (simp [Value.oneCell']; done))); (· (repeat constructor)); (· (repeat constructor)); (· (repeat constructor)); clear hS; intro ws hS
        refine hK.out _ _ (by first | exact hS.sx0 | exact Sx.le (by assumption) hS.sx0) (fun hHeld => ?_)
        clear hK K
        try simp only [Act.put, nz1, nz2, nz3]
        focus (refine takeN 26 (v := ?_) rfl (by kernel_rfl) ?_ ?_; rotate_left; focus (intro w hSw; clear hSw; go_simp; try with_reducible rfl))
        try simp only [Act.put, nz1, nz2, nz3]
        refine wpAnyH_done (by kernel_rfl) ?_ _
        refine NoPanic.normal ?_
      rotate_right
      focus
        (with_reducible apply s_load hS); (· exact Try.underlying24); (· exact rfl); (· exact rfl); (· (first | (apply Find.box; (· (repeat constructor)); rfl) | exact Find.mem (by assumption) | (apply Find.row; (· (repeat constructor)); assumption)))
        refine hK.out _ _ (by first | exact hS.sx0 | exact Sx.le (by assumption) hS.sx0) (fun hHeld => ?_)
        clear hK K
        try simp only [Act.put, nz1, nz2, nz3]
        refine wpAnyH_ready (rs := [8]) (by kernel_rfl) (by simp) ?_
        refine consL 8 rfl (fun K hK => ?_) AllReadyH.nil
        (with_reducible apply s_load hS); (· exact Try.underlying3); (· exact rfl); (· exact rfl); (· (first | (apply Find.box; (· (repeat constructor)); rfl) | exact Find.mem (by assumption) | (apply Find.row; (· (repeat constructor)); assumption)))
        refine hK.out _ _ (by first | exact hS.sx0 | exact Sx.le (by assumption) hS.sx0) (fun hHeld => ?_)
        clear hK K
        try simp only [Act.put, nz1, nz2, nz3]
        refine wpAnyH_ready (rs := [19]) (by kernel_rfl) (by simp) ?_
        refine consL 19 rfl (fun K hK => ?_) AllReadyH.nil
        rw [if_pos (by rfl)]; go_simp; refine (letHE addH_len (badd_v _ _ hS.inw _ _ HL.out _ HKK.out _ _ HDI.out HKX.out)).mono ?_; rintro e' w53 ⟨_, m53, rfl, ⟨p53, c53, Y53, E53, HY53, HE53, rfl, R53, C53⟩, hk⟩; replace hS := hS.call hk; have HLE := Lib.hid hk.le; clear hk; obtain rfl := HE53.out.trans hXX.out; go_wp2_with fail
        refine hK.out _ _ (by first | exact hS.sx0 | exact Sx.le (by assumption) hS.sx0) (fun hHeld => ?_)
        clear hK K
        try simp only [Act.put, nz1, nz2, nz3]
        focus (refine takeN 20 (v := ?_) rfl (by kernel_rfl) ?_ ?_; rotate_left; focus (intro w hSw; clear hSw; go_simp; try with_reducible rfl))
        try simp only [Act.put, nz1, nz2, nz3]
        focus (refine takeN 21 (v := ?_) rfl (by kernel_rfl) ?_ ?_; rotate_left; focus (intro w hSw; clear hSw; go_simp; try with_reducible rfl))
        try simp only [Act.put, nz1, nz2, nz3]
        focus (refine takeN 22 (v := ?_) rfl (by kernel_rfl) ?_ ?_; rotate_left; focus (intro w hSw; clear hSw; go_simp; try with_reducible rfl))
        try simp only [Act.put, nz1, nz2, nz3]
        focus (refine takeN 23 (v := ?_) rfl (by kernel_rfl) ?_ ?_; rotate_left; focus (intro w hSw; clear hSw; go_simp; try with_reducible rfl))
        try simp only [Act.put, nz1, nz2, nz3]
        focus (refine takeN 24 (v := ?_) rfl (by kernel_rfl) ?_ ?_; rotate_left; focus (intro w hSw; clear hSw; go_simp; try with_reducible rfl))
        try simp only [Act.put, nz1, nz2, nz3]
        refine wpAnyH_ready (rs := [25]) (by kernel_rfl) (by simp) ?_
        refine consL 25 rfl (fun K hK => ?_) AllReadyH.nil
        (with_reducible apply s_store hS); (· exact rowT24); (· exact rfl); (· (first | (go_simp; done) | (go_simp; with_reducible rfl))); (· (first | rfl | assumption | (simp [Value.oneCell']; done))); (· (repeat constructor)); (· (repeat constructor)); (· (repeat constructor)); clear hS; intro ws hS
        refine hK.out _ _ (by first | exact hS.sx0 | exact Sx.le (by assumption) hS.sx0) (fun hHeld => ?_)
        clear hK K
        try simp only [Act.put, nz1, nz2, nz3]
        focus (refine takeN 26 (v := ?_) rfl (by kernel_rfl) ?_ ?_; rotate_left; focus (intro w hSw; clear hSw; go_simp; try with_reducible rfl))
        try simp only [Act.put, nz1, nz2, nz3]
        refine wpAnyH_done (by kernel_rfl) ?_ _
        refine NoPanic.normal ?_
    rotate_right
    focus
      (with_reducible apply s_load hS); (· exact Try.underlying3); (· exact rfl); (· exact rfl); (· (first | (apply Find.box; (· (repeat constructor)); rfl) | exact Find.mem (by assumption) | (apply Find.row; (· (repeat constructor)); assumption)))
      refine hK.out _ _ (by first | exact hS.sx0 | exact Sx.le (by assumption) hS.sx0) (fun hHeld => ?_)
      clear hK K
      try simp only [Act.put, nz1, nz2, nz3]
      refine wpAnyH_ready (rs := [4, 14]) (by kernel_rfl) (by simp) ?_
      refine consL 4 rfl (fun K hK => ?_) (consL 14 rfl (fun K hK => ?_) AllReadyH.nil)
      rotate_right
      focus
        (with_reducible apply s_load hS); (· exact Try.underlying45); (· exact rfl); (· exact rfl); (· (first | (apply Find.box; (· (repeat constructor)); rfl) | exact Find.mem (by assumption) | (apply Find.row; (· (repeat constructor)); assumption)))
        refine hK.out _ _ (by first | exact hS.sx0 | exact Sx.le (by assumption) hS.sx0) (fun hHeld => ?_)
        clear hK K
        try simp only [Act.put, nz1, nz2, nz3]
        focus (refine takeN 16 (v := ?_) rfl (by kernel_rfl) ?_ ?_; rotate_left; focus (intro w hSw; clear hSw; go_simp; try with_reducible rfl))
        try simp only [Act.put, nz1, nz2, nz3]
        refine takeN 17 rfl (by kernel_rfl) (yield_load rfl Try.underlying2 rfl rfl (by (first | (apply FindX.box; (· (repeat constructor)); rfl) | exact FindX.mem (by assumption)))) ?_
        try simp only [Act.put, nz1, nz2, nz3]
        focus (refine takeN 18 (v := ?_) rfl (by kernel_rfl) ?_ ?_; rotate_left; focus (intro w hSw; clear hSw; go_simp; try with_reducible rfl))
        try simp only [Act.put, nz1, nz2, nz3]
        refine wpAnyH_ready (rs := [4]) (by kernel_rfl) (by simp) ?_
        refine consL 4 rfl (fun K hK => ?_) AllReadyH.nil
        (with_reducible apply s_load hS); (· exact Try.underlying24); (· exact rfl); (· exact rfl); (· (first | (apply Find.box; (· (repeat constructor)); rfl) | exact Find.mem (by assumption) | (apply Find.row; (· (repeat constructor)); assumption)))
        refine hK.out _ _ (by first | exact hS.sx0 | exact Sx.le (by assumption) hS.sx0) (fun hHeld => ?_)
        clear hK K
        try simp only [Act.put, nz1, nz2, nz3]
        refine wpAnyH_ready (rs := [19]) (by kernel_rfl) (by simp) ?_
        refine consL 19 rfl (fun K hK => ?_) AllReadyH.nil
        rw [if_pos (by rfl)]; go_simp; refine (letHE addH_len (badd_v _ _ hS.inw _ _ HL.out _ HKK.out _ _ HDI.out HKX.out)).mono ?_; rintro e' w53 ⟨_, m53, rfl, ⟨p53, c53, Y53, E53, HY53, HE53, rfl, R53, C53⟩, hk⟩; replace hS := hS.call hk; have HLE := Lib.hid hk.le; clear hk; obtain rfl := HE53.out.trans hXX.out; go_wp2_with fail
        refine hK.out _ _ (by first | exact hS.sx0 | exact Sx.le (by assumption) hS.sx0) (fun hHeld => ?_)
        clear hK K
        try simp only [Act.put, nz1, nz2, nz3]
        focus (refine takeN 20 (v := ?_) rfl (by kernel_rfl) ?_ ?_; rotate_left; focus (intro w hSw; clear hSw; go_simp; try with_reducible rfl))
        try simp only [Act.put, nz1, nz2, nz3]
        focus (refine takeN 21 (v := ?_) rfl (by kernel_rfl) ?_ ?_; rotate_left; focus (intro w hSw; clear hSw; go_simp; try with_reducible rfl))
        try simp only [Act.put, nz1, nz2, nz3]
        focus (refine takeN 22 (v := ?_) rfl (by kernel_rfl) ?_ ?_; rotate_left; focus (intro w hSw; clear hSw; go_simp; try with_reducible rfl))
        try simp only [Act.put, nz1, nz2, nz3]
        focus (refine takeN 23 (v := ?_) rfl (by kernel_rfl) ?_ ?_; rotate_left; focus (intro w hSw; clear hSw; go_simp; try with_reducible rfl))
        try simp only [Act.put, nz1, nz2, nz3]
        focus (refine takeN 24 (v := ?_) rfl (by kernel_rfl) ?_ ?_; rotate_left; focus (intro w hSw; clear hSw; go_simp; try with_reducible rfl))
        try simp only [Act.put, nz1, nz2, nz3]
        refine wpAnyH_ready (rs := [25]) (by kernel_rfl) (by simp) ?_
        refine consL 25 rfl (fun K hK => ?_) AllReadyH.nil
        (with_reducible apply s_store hS); (· exact rowT24); (· exact rfl); (· (first | (go_simp; done) | (go_simp; with_reducible rfl))); (· (first | rfl | assumption | (simp [Value.oneCell']; done))); (· (repeat constructor)); (· (repeat constructor)); (· (repeat constructor)); clear hS; intro ws hS
        refine hK.out _ _ (by first | exact hS.sx0 | exact Sx.le (by assumption) hS.sx0) (fun hHeld => ?_)
        clear hK K
        try simp only [Act.put, nz1, nz2, nz3]
        focus (refine takeN 26 (v := ?_) rfl (by kernel_rfl) ?_ ?_; rotate_left; focus (intro w hSw; clear hSw; go_simp; try with_reducible rfl))
        try simp only [Act.put, nz1, nz2, nz3]
        refine wpAnyH_done (by kernel_rfl) ?_ _
        refine NoPanic.normal ?_
      rotate_right
      focus
        (with_reducible apply s_load hS); (· exact Try.underlying24); (· exact rfl); (· exact rfl); (· (first | (apply Find.box; (· (repeat constructor)); rfl) | exact Find.mem (by assumption) | (apply Find.row; (· (repeat constructor)); assumption)))
        refine hK.out _ _ (by first | exact hS.sx0 | exact Sx.le (by assumption) hS.sx0) (fun hHeld => ?_)
        clear hK K
        try simp only [Act.put, nz1, nz2, nz3]
        refine wpAnyH_ready (rs := [14]) (by kernel_rfl) (by simp) ?_
        refine consL 14 rfl (fun K hK => ?_) AllReadyH.nil
        (with_reducible apply s_load hS); (· exact Try.underlying45); (· exact rfl); (· exact rfl); (· (first | (apply Find.box; (· (repeat constructor)); rfl) | exact Find.mem (by assumption) | (apply Find.row; (· (repeat constructor)); assumption)))
        refine hK.out _ _ (by first | exact hS.sx0 | exact Sx.le (by assumption) hS.sx0) (fun hHeld => ?_)
        clear hK K
        try simp only [Act.put, nz1, nz2, nz3]
        focus (refine takeN 16 (v := ?_) rfl (by kernel_rfl) ?_ ?_; rotate_left; focus (intro w hSw; clear hSw; go_simp; try with_reducible rfl))
        try simp only [Act.put, nz1, nz2, nz3]
        refine takeN 17 rfl (by kernel_rfl) (yield_load rfl Try.underlying2 rfl rfl (by (first | (apply FindX.box; (· (repeat constructor)); rfl) | exact FindX.mem (by assumption)))) ?_
        try simp only [Act.put, nz1, nz2, nz3]
        focus (refine takeN 18 (v := ?_) rfl (by kernel_rfl) ?_ ?_; rotate_left; focus (intro w hSw; clear hSw; go_simp; try with_reducible rfl))
        try simp only [Act.put, nz1, nz2, nz3]
        refine wpAnyH_ready (rs := [19]) (by kernel_rfl) (by simp) ?_
        refine consL 19 rfl (fun K hK => ?_) AllReadyH.nil
        rw [if_pos (by rfl)]; go_simp; refine (letHE addH_len (badd_v _ _ hS.inw _ _ HL.out _ HKK.out _ _ HDI.out HKX.out)).mono ?_; rintro e' w53 ⟨_, m53, rfl, ⟨p53, c53, Y53, E53, HY53, HE53, rfl, R53, C53⟩, hk⟩; replace hS := hS.call hk; have HLE := Lib.hid hk.le; clear hk; obtain rfl := HE53.out.trans hXX.out; go_wp2_with fail
        refine hK.out _ _ (by first | exact hS.sx0 | exact Sx.le (by assumption) hS.sx0) (fun hHeld => ?_)
        clear hK K
        try simp only [Act.put, nz1, nz2, nz3]
        focus (refine takeN 20 (v := ?_) rfl (by kernel_rfl) ?_ ?_; rotate_left; focus (intro w hSw; clear hSw; go_simp; try with_reducible rfl))
        try simp only [Act.put, nz1, nz2, nz3]
        focus (refine takeN 21 (v := ?_) rfl (by kernel_rfl) ?_ ?_; rotate_left; focus (intro w hSw; clear hSw; go_simp; try with_reducible rfl))
        try simp only [Act.put, nz1, nz2, nz3]
        focus (refine takeN 22 (v := ?_) rfl (by kernel_rfl) ?_ ?_; rotate_left; focus (intro w hSw; clear hSw; go_simp; try with_reducible rfl))
        try simp only [Act.put, nz1, nz2, nz3]
        focus (refine takeN 23 (v := ?_) rfl (by kernel_rfl) ?_ ?_; rotate_left; focus (intro w hSw; clear hSw; go_simp; try with_reducible rfl))
        try simp only [Act.put, nz1, nz2, nz3]
        focus (refine takeN 24 (v := ?_) rfl (by kernel_rfl) ?_ ?_; rotate_left; focus (intro w hSw; clear hSw; go_simp; try with_reducible rfl))
        try simp only [Act.put, nz1, nz2, nz3]
        refine wpAnyH_ready (rs := [25]) (by kernel_rfl) (by simp) ?_
        refine consL 25 rfl (fun K hK => ?_) AllReadyH.nil
        (with_reducible apply s_store hS); (· exact rowT24); (· exact rfl); (· (first | (go_simp; done) | (go_simp; with_reducible rfl))); (· (first | rfl | assumption | (simp [Value.oneCell']; done))); (· (repeat constructor)); (· (repeat constructor)); (· (repeat constructor)); clear hS; intro ws hS
        refine hK.out _ _ (by first | exact hS.sx0 | exact Sx.le (by assumption) hS.sx0) (fun hHeld => ?_)
        clear hK K
        try simp only [Act.put, nz1, nz2, nz3]
        focus (refine takeN 26 (v := ?_) rfl (by kernel_rfl) ?_ ?_; rotate_left; focus (intro w hSw; clear hSw; go_simp; try with_reducible rfl))
        try simp only [Act.put, nz1, nz2, nz3]
        refine wpAnyH_done (by kernel_rfl) ?_ _
        refine NoPanic.normal ?_
    rotate_right
    focus
      (with_reducible apply s_load hS); (· exact Try.underlying24); (· exact rfl); (· exact rfl); (· (first | (apply Find.box; (· (repeat constructor)); rfl) | exact Find.mem (by assumption) | (apply Find.row; (· (repeat constructor)); assumption)))
      refine hK.out _ _ (by first | exact hS.sx0 | exact Sx.le (by assumption) hS.sx0) (fun hHeld => ?_)
      clear hK K
      try simp only [Act.put, nz1, nz2, nz3]
      refine wpAnyH_ready (rs := [8, 14]) (by kernel_rfl) (by simp) ?_
      refine consL 8 rfl (fun K hK => ?_) (consL 14 rfl (fun K hK => ?_) AllReadyH.nil)
      rotate_right
      focus
        (with_reducible apply s_load hS); (· exact Try.underlying45); (· exact rfl); (· exact rfl); (· (first | (apply Find.box; (· (repeat constructor)); rfl) | exact Find.mem (by assumption) | (apply Find.row; (· (repeat constructor)); assumption)))
        refine hK.out _ _ (by first | exact hS.sx0 | exact Sx.le (by assumption) hS.sx0) (fun hHeld => ?_)
        clear hK K
        try simp only [Act.put, nz1, nz2, nz3]
        focus (refine takeN 16 (v := ?_) rfl (by kernel_rfl) ?_ ?_; rotate_left; focus (intro w hSw; clear hSw; go_simp; try with_reducible rfl))
        try simp only [Act.put, nz1, nz2, nz3]
        refine takeN 17 rfl (by kernel_rfl) (yield_load rfl Try.underlying2 rfl rfl (by (first | (apply FindX.box; (· (repeat constructor)); rfl) | exact FindX.mem (by assumption)))) ?_
        try simp only [Act.put, nz1, nz2, nz3]
        focus (refine takeN 18 (v := ?_) rfl (by kernel_rfl) ?_ ?_; rotate_left; focus (intro w hSw; clear hSw; go_simp; try with_reducible rfl))
        try simp only [Act.put, nz1, nz2, nz3]
        refine wpAnyH_ready (rs := [8]) (by kernel_rfl) (by simp) ?_
        refine consL 8 rfl (fun K hK => ?_) AllReadyH.nil
        (with_reducible apply s_load hS); (· exact Try.underlying3); (· exact rfl); (· exact rfl); (· (first | (apply Find.box; (· (repeat constructor)); rfl) | exact Find.mem (by assumption) | (apply Find.row; (· (repeat constructor)); assumption)))
        refine hK.out _ _ (by first | exact hS.sx0 | exact Sx.le (by assumption) hS.sx0) (fun hHeld => ?_)
        clear hK K
        try simp only [Act.put, nz1, nz2, nz3]
        refine wpAnyH_ready (rs := [19]) (by kernel_rfl) (by simp) ?_
        refine consL 19 rfl (fun K hK => ?_) AllReadyH.nil
        rw [if_pos (by rfl)]; go_simp; refine (letHE addH_len (badd_v _ _ hS.inw _ _ HL.out _ HKK.out _ _ HDI.out HKX.out)).mono ?_; rintro e' w53 ⟨_, m53, rfl, ⟨p53, c53, Y53, E53, HY53, HE53, rfl, R53, C53⟩, hk⟩; replace hS := hS.call hk; have HLE := Lib.hid hk.le; clear hk; obtain rfl := HE53.out.trans hXX.out; go_wp2_with fail
        refine hK.out _ _ (by first | exact hS.sx0 | exact Sx.le (by assumption) hS.sx0) (fun hHeld => ?_)
        clear hK K
        try simp only [Act.put, nz1, nz2, nz3]
        focus (refine takeN 20 (v := ?_) rfl (by kernel_rfl) ?_ ?_; rotate_left; focus (intro w hSw; clear hSw; go_simp; try with_reducible rfl))
        try simp only [Act.put, nz1, nz2, nz3]
        focus (refine takeN 21 (v := ?_) rfl (by kernel_rfl) ?_ ?_; rotate_left; focus (intro w hSw; clear hSw; go_simp; try with_reducible rfl))
        try simp only [Act.put, nz1, nz2, nz3]
        focus (refine takeN 22 (v := ?_) rfl (by kernel_rfl) ?_ ?_; rotate_left; focus (intro w hSw; clear hSw; go_simp; try with_reducible rfl))
        try simp only [Act.put, nz1, nz2, nz3]
        focus (refine takeN 23 (v := ?_) rfl (by kernel_rfl) ?_ ?_; rotate_left; focus (intro w hSw; clear hSw; go_simp; try with_reducible rfl))
        try simp only [Act.put, nz1, nz2, nz3]
        focus (refine takeN 24 (v := ?_) rfl (by kernel_rfl) ?_ ?_; rotate_left; focus (intro w hSw; clear hSw; go_simp; try with_reducible rfl))
        try simp only [Act.put, nz1, nz2, nz3]
        refine wpAnyH_ready (rs := [25]) (by kernel_rfl) (by simp) ?_
        refine consL 25 rfl (fun K hK => ?_) AllReadyH.nil
        (with_reducible apply s_store hS); (· exact rowT24); (· exact rfl); (· (first | (go_simp; done) | (go_simp; with_reducible rfl))); (· (first | rfl | assumption | (simp [Value.oneCell']; done))); (· (repeat constructor)); (· (repeat constructor)); (· (repeat constructor)); clear hS; intro ws hS
        refine hK.out _ _ (by first | exact hS.sx0 | exact Sx.le (by assumption) hS.sx0) (fun hHeld => ?_)
        clear hK K
        try simp only [Act.put, nz1, nz2, nz3]
        focus (refine takeN 26 (v := ?_) rfl (by kernel_rfl) ?_ ?_; rotate_left; focus (intro w hSw; clear hSw; go_simp; try with_reducible rfl))
        try simp only [Act.put, nz1, nz2, nz3]
        refine wpAnyH_done (by kernel_rfl) ?_ _
        refine NoPanic.normal ?_
      rotate_right
      focus
        (with_reducible apply s_load hS); (· exact Try.underlying3); (· exact rfl); (· exact rfl); (· (first | (apply Find.box; (· (repeat constructor)); rfl) | exact Find.mem (by assumption) | (apply Find.row; (· (repeat constructor)); assumption)))
        refine hK.out _ _ (by first | exact hS.sx0 | exact Sx.le (by assumption) hS.sx0) (fun hHeld => ?_)
        clear hK K
        try simp only [Act.put, nz1, nz2, nz3]
        refine wpAnyH_ready (rs := [14]) (by kernel_rfl) (by simp) ?_
        refine consL 14 rfl (fun K hK => ?_) AllReadyH.nil
        (with_reducible apply s_load hS); (· exact Try.underlying45); (· exact rfl); (· exact rfl); (· (first | (apply Find.box; (· (repeat constructor)); rfl) | exact Find.mem (by assumption) | (apply Find.row; (· (repeat constructor)); assumption)))
        refine hK.out _ _ (by first | exact hS.sx0 | exact Sx.le (by assumption) hS.sx0) (fun hHeld => ?_)
        clear hK K
        try simp only [Act.put, nz1, nz2, nz3]
        focus (refine takeN 16 (v := ?_) rfl (by kernel_rfl) ?_ ?_; rotate_left; focus (intro w hSw; clear hSw; go_simp; try with_reducible rfl))
        try simp only [Act.put, nz1, nz2, nz3]
        refine takeN 17 rfl (by kernel_rfl) (yield_load rfl Try.underlying2 rfl rfl (by (first | (apply FindX.box; (· (repeat constructor)); rfl) | exact FindX.mem (by assumption)))) ?_
        try simp only [Act.put, nz1, nz2, nz3]
        focus (refine takeN 18 (v := ?_) rfl (by kernel_rfl) ?_ ?_; rotate_left; focus (intro w hSw; clear hSw; go_simp; try with_reducible rfl))
        try simp only [Act.put, nz1, nz2, nz3]
        refine wpAnyH_ready (rs := [19]) (by kernel_rfl) (by simp) ?_
        refine consL 19 rfl (fun K hK => ?_) AllReadyH.nil
        rw [if_pos (by rfl)]; go_simp; refine (letHE addH_len (badd_v _ _ hS.inw _ _ HL.out _ HKK.out _ _ HDI.out HKX.out)).mono ?_; rintro e' w53 ⟨_, m53, rfl, ⟨p53, c53, Y53, E53, HY53, HE53, rfl, R53, C53⟩, hk⟩; replace hS := hS.call hk; have HLE := Lib.hid hk.le; clear hk; obtain rfl := HE53.out.trans hXX.out; go_wp2_with fail
        refine hK.out _ _ (by first | exact hS.sx0 | exact Sx.le (by assumption) hS.sx0) (fun hHeld => ?_)
        clear hK K
        try simp only [Act.put, nz1, nz2, nz3]
        focus (refine takeN 20 (v := ?_) rfl (by kernel_rfl) ?_ ?_; rotate_left; focus (intro w hSw; clear hSw; go_simp; try with_reducible rfl))
        try simp only [Act.put, nz1, nz2, nz3]
        focus (refine takeN 21 (v := ?_) rfl (by kernel_rfl) ?_ ?_; rotate_left; focus (intro w hSw; clear hSw; go_simp; try with_reducible rfl))
        try simp only [Act.put, nz1, nz2, nz3]
        focus (refine takeN 22 (v := ?_) rfl (by kernel_rfl) ?_ ?_; rotate_left; focus (intro w hSw; clear hSw; go_simp; try with_reducible rfl))
        try simp only [Act.put, nz1, nz2, nz3]
        focus (refine takeN 23 (v := ?_) rfl (by kernel_rfl) ?_ ?_; rotate_left; focus (intro w hSw; clear hSw; go_simp; try with_reducible rfl))
        try simp only [Act.put, nz1, nz2, nz3]
        focus (refine takeN 24 (v := ?_) rfl (by kernel_rfl) ?_ ?_; rotate_left; focus (intro w hSw; clear hSw; go_simp; try with_reducible rfl))
        try simp only [Act.put, nz1, nz2, nz3]
        refine wpAnyH_ready (rs := [25]) (by kernel_rfl) (by simp) ?_
        refine consL 25 rfl (fun K hK => ?_) AllReadyH.nil
        (with_reducible apply s_store hS); (· exact rowT24); (· exact rfl); (· (first | (go_simp; done) | (go_simp; with_reducible rfl))); (· (first | rfl | assumption | (simp [Value.oneCell']; done))); (· (repeat constructor)); (· (repeat constructor)); (· (repeat constructor)); clear hS; intro ws hS
        refine hK.out _ _ (by first | exact hS.sx0 | exact Sx.le (by assumption) hS.sx0) (fun hHeld => ?_)
        clear hK K
        try simp only [Act.put, nz1, nz2, nz3]
        focus (refine takeN 26 (v := ?_) rfl (by kernel_rfl) ?_ ?_; rotate_left; focus (intro w hSw; clear hSw; go_simp; try with_reducible rfl))
        try simp only [Act.put, nz1, nz2, nz3]
        refine wpAnyH_done (by kernel_rfl) ?_ _
        refine NoPanic.normal ?_
  all_goals
    go_wp2_with (first
    | ((with_reducible refine' Wl.out ?_; apply k_load hS); (· exact .mk))
    | ((with_reducible refine' Wl.out ?_; apply k_store hS); (· exact .mk); clear hS; intro ws hS)
    | ((with_reducible refine' Wl.out ?_; apply k_storeR hS); (· exact .mk); clear hS; intro ws hS))
    go_ret
    exact ⟨rfl, p53, c53, Y53, m53, HY53, HLE.out, R53, hS⟩
end Go.Proofs.Ytlkdjmpkapeppaa
/- What is added one by one: plain laws for BestNearest and BestParts. -/
namespace Go.Proofs.Ytlkdjmpkapeppaa
set_option linter.unusedVariables false
set_option linter.unusedSimpArgs false
theorem addX_zero {l : List Hit} {k : Int} {h : Hit} (h0 : addX l k h = 0) : okH l k ∧ fineH h ∧ (∀ x ∈ l, x.id ≠ h.id) ∧ addH l k h = addL l k.toNat h := by
  unfold addX at h0
  split at h0
  · rename_i hh
    split at h0
    · rename_i ht
      refine ⟨hh.1, hh.2, fun x hx => ?_, if_pos ⟨hh.1, hh.2, ht⟩⟩
      have := List.any_eq_false.1 ht x hx
      simpa using this
    · omega
  · omega
theorem wrap64 {x : Int} (h1 : 0 ≤ x) (h2 : x ≤ 9223372036854775807) : IntKind.i64.wrap x = x := by
  simp only [IntKind.wrap, IntKind.bits, IntKind.signed]
  simp
  omega
/-- l is a heap of the k nearest ones of S. -/
def InvN (l S : List Hit) (k : Int) : Prop := okH l k ∧ srt l = near k.toNat S ∧ l.length = min S.length k.toNat
theorem InvN.nil {k : Int} (h1 : 1 ≤ k) (h2 : k ≤ 256) : InvN [] [] k := ⟨⟨h1, h2, by simp; omega, by simp, by simp, fun k _ h => by simp at h⟩, by simp [near, srt], by simp⟩
theorem InvN.step {l S : List Hit} {k : Int} {h : Hit} (hI : InvN l S k) (hf : fineH h) (hn : ∀ x ∈ S, x.id ≠ h.id) : addX l k h = 0 ∧ InvN (addH l k h) (S ++ [h]) k := by
  obtain ⟨o, s, ln⟩ := hI
  have hl : ∀ x ∈ l, x.id ≠ h.id := fun x hx => hn x (near_sub (k := k.toNat) x (by rw [← s]; exact (srt_perm l).mem_iff.2 hx))
  have ht : l.any (fun x => decide (x.id = h.id)) = false := List.any_eq_false.2 fun x hx => by simpa using hl x hx
  obtain ⟨e1, e2⟩ := addX_ok o hf ht
  obtain ⟨a1, a2, a3⟩ := add_okH o hf hl
  rw [e2]
  refine ⟨e1, a1, grown_near s a2, ?_⟩
  rw [a3, ln]
  simp
  omega
theorem InvN.sorted {l S : List Hit} {k : Int} (hI : InvN l S k) : sortH l k = near k.toNat S ∧ chkE l k = 0 := by
  refine ⟨?_, if_pos hI.1⟩
  unfold sortH
  rw [if_pos hI.1]
  exact hI.2.1
/-- The hits of distances: each one's place is its id. -/
def Hn (far : List Int) (i : Nat) : Hit := ⟨far.getD i 0, i⟩
def upH (far : List Int) (i : Nat) : List Hit := (List.range i).map (Hn far)
def dnH (far : List Int) (i : Nat) : List Hit := (List.range i).map fun j => Hn far (far.length - 1 - j)
theorem upH_succ (far : List Int) (i : Nat) : upH far (i + 1) = upH far i ++ [Hn far i] := by simp [upH, List.range_succ]
theorem dnH_succ (far : List Int) (i : Nat) : dnH far (i + 1) = dnH far i ++ [Hn far (far.length - 1 - i)] := by simp [dnH, List.range_succ]
theorem upH_new {far : List Int} {i : Nat} : ∀ x ∈ upH far i, x.id ≠ (Hn far i).id := by
  intro x hx
  obtain ⟨j, hj, rfl⟩ := List.mem_map.1 hx
  have := List.mem_range.1 hj
  simp [Hn]
  omega
theorem dnH_new {far : List Int} {i : Nat} (hi : i < far.length) : ∀ x ∈ dnH far i, x.id ≠ (Hn far (far.length - 1 - i)).id := by
  intro x hx
  obtain ⟨j, hj, rfl⟩ := List.mem_map.1 hx
  have := List.mem_range.1 hj
  simp [Hn]
  omega
theorem dn_up (far : List Int) : (dnH far far.length).Perm (upH far far.length) := by
  have e : dnH far far.length = (upH far far.length).reverse := by
    apply List.ext_getElem
    · simp [dnH, upH]
    · intro i h1 h2
      simp [dnH, upH] at *
  rw [e]
  exact List.reverse_perm _
theorem fine_n {far : List Int} (hw : ∀ x ∈ far, 0 ≤ x ∧ x ≤ 65535) {i : Nat} (hi : i < far.length) (h1 : far.length ≤ 100) : fineH (Hn far i) := by
  have := hw (far.getD i 0) (by simp [List.getD, hi])
  unfold fineH Hn
  simp only
  omega
theorem upH_len (far : List Int) (i : Nat) : (upH far i).length = i := by simp [upH]
theorem dnH_len (far : List Int) (i : Nat) : (dnH far i).length = i := by simp [dnH]
theorem upH_nodup (far : List Int) : ∀ i, ((upH far i).map Hit.id).Nodup
  | 0 => by simp [upH]
  | i + 1 => by
    rw [upH_succ, List.map_append, List.nodup_append]
    refine ⟨upH_nodup far i, by simp, fun a ha b hb e => ?_⟩
    obtain ⟨x, hx, rfl⟩ := List.mem_map.1 ha
    simp at hb
    subst hb
    exact upH_new x hx e
/-- What the nearest ones of all are. -/
theorem near_up {far : List Int} {k n : Nat} {s : List Hit} (hs : s = near k (upH far n)) :
    (∀ i, i + 1 < s.length → (s.getD i hz).lt (s.getD (i + 1) hz)) ∧ (∀ i, i < s.length → ∃ j, j < n ∧ s.getD i hz = Hn far j) ∧ s.length = min k n ∧
    (∀ i, i < n → (i : Int) ∉ s.map Hit.id → s.length = k ∧ ∀ x ∈ s, ¬ (Hn far i).lt x) := by
  have hnd : (s.map Hit.id).Nodup := by
    have := ((srt_perm (upH far n)).map Hit.id).nodup_iff.2 (upH_nodup far n)
    rw [hs]
    unfold near
    rw [List.map_take]
    exact this.sublist (List.take_sublist _ _)
  have hst : s.Pairwise Hit.lt := asc_strict (by rw [hs]; exact near_asc _ _) hnd
  refine ⟨fun i hi => ?_, fun i hi => ?_, by rw [hs]; unfold near; rw [List.length_take, srt_length, upH_len], fun i hi hn => ?_⟩
  · have := List.pairwise_iff_getElem.1 hst i (i + 1) (by omega) hi (by omega)
    simpa [List.getD, hi, show i < s.length by omega] using this
  · have hm : s.getD i hz ∈ upH far n := near_sub (k := k) _ (by rw [← hs]; simp [List.getD, hi])
    obtain ⟨j, hj, e⟩ := List.mem_map.1 hm
    exact ⟨j, List.mem_range.1 hj, e.symm⟩
  · have hmem : Hn far i ∈ upH far n := List.mem_map.2 ⟨i, List.mem_range.2 hi, rfl⟩
    have hno : Hn far i ∉ near k (upH far n) := fun h => hn (List.mem_map.2 ⟨_, by rw [hs]; exact h, rfl⟩)
    have := near_rest hmem hno
    rw [hs]
    exact this
/-- Which ids are there. -/
def inF (s : List Hit) (i : Nat) : Int → Option Bool := fun z => if z ∈ (s.take i).map Hit.id then some true else none
theorem inF_zero (s : List Hit) : inF s 0 = fun _ => none := by funext z; simp [inF]
theorem inF_succ {s : List Hit} {i : Nat} (hi : i < s.length) {d : Int} (hd : s[i].id = d) : (fun z => if z = d then some true else inF s i z) = inF s (i + 1) := by
  funext z
  unfold inF
  rw [List.take_succ_eq_append_getElem hi, List.map_append, ← hd]
  by_cases h : z = s[i].id
  · simp [h]
  · simp [h]
theorem inF_all {s : List Hit} {z : Int} : (inF s s.length z).getD false = decide (z ∈ s.map Hit.id) := by
  unfold inF
  rw [List.take_length]
  by_cases h : z ∈ s.map Hit.id
  · rw [if_pos h, decide_eq_true h]; rfl
  · rw [if_neg h, decide_eq_false h]; rfl
end Go.Proofs.Ytlkdjmpkapeppaa
/- scan: find, as Brute asks for it. -/
namespace Go.Proofs.Ytlkdjmpkapeppaa
set_option linter.unusedVariables false
set_option linter.unusedSimpArgs false
open Go.RowKit Go.Shelf
/-- The hits of the first slots. -/
noncomputable def hitsOf (s : Sl) (q : List Int) : Nat → List Hit
  | 0 => []
  | k + 1 => if s.ids.getD k 0 = -1 then hitsOf s q k else hitsOf s q k ++ [⟨dN (s.vecs.getD k []) q, s.ids.getD k 0⟩]
theorem hitsOf_mem {s : Sl} {q : List Int} {x : Hit} : ∀ {k : Nat}, x ∈ hitsOf s q k ↔ ∃ j, j < k ∧ s.ids.getD j 0 ≠ -1 ∧ x = ⟨dN (s.vecs.getD j []) q, s.ids.getD j 0⟩
  | 0 => by simp [hitsOf]
  | k + 1 => by
    unfold hitsOf
    split
    · rename_i h
      rw [hitsOf_mem]
      constructor
      · rintro ⟨j, h1, h2⟩; exact ⟨j, by omega, h2⟩
      · rintro ⟨j, h1, h2, h3⟩
        by_cases e : j = k
        · subst e; exact absurd h h2
        · exact ⟨j, by omega, h2, h3⟩
    · rename_i h
      rw [List.mem_append, hitsOf_mem]
      constructor
      · rintro (⟨j, h1, h2⟩ | h1)
        · exact ⟨j, by omega, h2⟩
        · exact ⟨k, by omega, h, by simpa using h1⟩
      · rintro ⟨j, h1, h2, h3⟩
        by_cases e : j = k
        · subst e; exact .inr (by simp [h3])
        · exact .inl ⟨j, by omega, h2, h3⟩
theorem hitsOf_len (s : Sl) (q : List Int) : ∀ k, (hitsOf s q k).length ≤ k
  | 0 => by simp [hitsOf]
  | k + 1 => by
    have := hitsOf_len s q k
    unfold hitsOf
    split
    · omega
    · simp; omega
theorem good_hit {s : Sl} {q : List Int} {K : Int} (h : mayP s q K) {k : Nat} (hk : k < s.ids.length) (hx : s.ids.getD k 0 ≠ -1) : dE (s.vecs.getD k []) q = 0 ∧ 0 ≤ s.ids.getD k 0 ∧ s.ids.getD k 0 ≤ 2147483647 ∧ ∀ j, j < k → s.ids.getD j 0 ≠ s.ids.getD k 0 := by
  rcases h.1.2.2.2 k hk with ⟨h1, _⟩ | ⟨h1, h2, h3, h4⟩
  · exact absurd h1 hx
  · exact ⟨if_pos ⟨h3.1, h.2.1, by have := h3.2; have := h.2.2.1; omega⟩, h1, h2, h4⟩
theorem hits_step {s : Sl} {q : List Int} {K : Int} {l : List Hit} (h : mayP s q K) (hD : ∀ k, 0 ≤ dN (s.vecs.getD k []) q) {k : Nat} (hk : k < s.ids.length) (hI : InvN l (hitsOf s q k) K) (hx : s.ids.getD k 0 ≠ -1) :
    addX l K ⟨dN (s.vecs.getD k []) q, s.ids.getD k 0⟩ = 0 ∧ InvN (addH l K ⟨dN (s.vecs.getD k []) q, s.ids.getD k 0⟩) (hitsOf s q (k + 1)) K := by
  obtain ⟨_, h1, h2, h3⟩ := good_hit h hk hx
  have e : hitsOf s q (k + 1) = hitsOf s q k ++ [⟨dN (s.vecs.getD k []) q, s.ids.getD k 0⟩] := if_neg hx
  rw [e]
  refine hI.step ?_ fun x hm => ?_
  · exact ⟨hD k, h1, h2⟩
  · obtain ⟨j, hj, _, rfl⟩ := hitsOf_mem.1 hm
    exact h3 j hj
end Go.Proofs.Ytlkdjmpkapeppaa
/- scan: find and Brute. -/
namespace Go.Proofs.Ytlkdjmpkapeppaa
set_option linter.unusedVariables false
set_option linter.unusedSimpArgs false
open Go.RowKit Go.Shelf
set_option maxRecDepth 100000 in
set_option maxHeartbeats 4000000 in
theorem nopass_c (m : Mem) (w : World) (hm : m.In w) (i : Int) : Calls Try.prog 46 #[.int .i64 i] w (Ret w m fun v _ => v = .bool false) := by
  have hS := St.start hm
  go_enter Try.func46, Try.ntmps46
  go_wp2_with fail
  go_ret
  exact ⟨_, m, rfl, rfl, hS⟩
set_option maxRecDepth 100000 in
set_option maxHeartbeats 4000000 in
theorem find_c {X : List Nat} {w0 w : World} {m0 m : Mem} {b : Nat} {s : Sl} {q1 q2 p : Option Addr} {c1 c2 c : Nat} {q : List Int} {K : Int}
    (hS : St X w0 m0 w [.box b (fiC s q1 c1 q2 c2 q p c K none 0 0 0)] m)
    (hs : slL.rd m [.int .i64 s.dim, .slice q1 s.ids.length c1, .slice q2 s.vecs.length c2] s) (hq : vecL.rd m [.slice p q.length c] q) (hmay : mayP s q K) (hDn : ∀ k, 0 ≤ dN (s.vecs.getD k []) q) :
    Calls Try.prog 45 #[.pointer (some ⟨b, 0, none⟩), .func (.func 46) #[] #[]] w fun e w' => ∃ p' c' R m' cells, ∃ N : Int, Hid (R = near K.toNat (hitsOf s q s.ids.length)) ∧ e = .returned (.tuple #[.slice p' R.length c', .int .i64 N, .int .i64 0]) ∧ m.Le m' ∧ Hid (hitL.list.rd m' [.slice p' R.length c'] R) ∧
      St X w0 m0 w' [.box b cells] m' := by
  have H0 := hmay
  obtain ⟨o1, o2, o3, o4, o5⟩ := H0
  have l256 := o1.2.1.2
  have lvecs := o1.2.2.1
  have HK : Hid (InK .i64 K) := inK64 (by omega) (by omega)
  obtain ⟨_, _, _, _, e, hd, h1, h2⟩ := slL_open hs
  cases e
  obtain ⟨_, _, e1, _, _, _, r1⟩ := Lay.list_open h1
  cases e1
  have HI := Lib.hid r1
  have HSl := Lib.hid hs
  have HQ := Lib.hid hq
  have HM := Lib.hid hmay
  have HDn := Lib.hid hDn
  have HLV := Lib.hid lvecs
  have HI0 : Hid (InvN [] (hitsOf s q 0) K) := InvN.nil (by omega) (by omega)
  clear hs hq h1 h2 r1 hmay hDn o1 o2 o3 o4 o5 lvecs
  go_enter Try.func45, Try.ntmps45
  go_wp2_with (first
    | ((with_reducible refine' Wl.out ?_; apply k_load hS); (· exact .mk)))
  go_loopw [18] (fun vi wr => ∃ (k n : Nat) (kp : Option Addr) (kc : Nat) (l : List Hit) (m' : Mem), k ≤ s.ids.length ∧ vi = .int .i64 k ∧ n ≤ k ∧ Hid (InvN l (hitsOf s q k) K) ∧ Hid (m.Le m') ∧ Hid (hitL.list.rd m' [.slice kp l.length kc] l) ∧ St X w0 m0 wr [.box b (fiC s q1 c1 q2 c2 q p c K kp l.length kc n)] m') (fun vi _ => s.ids.length - (intOf vi).toNat)
  case atStart => exact ⟨0, 0, none, 0, [], m, Nat.zero_le _, rfl, Nat.le_refl _, HI0, Mem.Le.refl _, Lay.nil_rd _ _, hS⟩
  case round =>
    clear hS HI0
    obtain ⟨k, n, kp, kc, l, m', hk, rfl, hn, hI, hle, hrd, hS⟩ := hrel
    by_cases hlt : k < s.ids.length
    · obtain ⟨bi, oi, rfl, hcx, hkx⟩ := HI.out.intAt k hlt
      have hcx' := hle.out _ _ hcx
      have hkz : (k : Int) < s.ids.length := by omega
      by_cases hx : s.ids.getD k 0 = -1
      · have HN : Hid (InvN l (hitsOf s q (k + 1)) K) := by
          have e : hitsOf s q (k + 1) = hitsOf s q k := if_pos hx
          show InvN _ _ _
          rw [e]; exact hI.out
        clear hcx hkx hI
        generalize s.ids.getD k 0 = x at *
        subst hx
        go_wp2_with (first
    | ((with_reducible refine' Wl.out ?_; apply k_load hS); (· exact .mk)))
        go_roundw
        case rel => exact ⟨k + 1, n, kp, kc, l, m', hlt, by go_num, by omega, HN, hle, hrd, hS⟩
        case measure => simp [intOf]; omega
      · obtain ⟨g1, g2, g3, g4⟩ := good_hit HM.out hlt hx
        obtain ⟨a1, a2⟩ := hits_step HM.out HDn.out hlt hI.out hx
        have HC := Lib.hid (fun (ww : World) (hh : St X w0 m0 ww [.box b (fiC s (some ⟨bi, oi, none⟩) c1 q2 c2 q p c K kp l.length kc n)] m') => look_c hh (Lay.mono _ hle.out HSl.out) (Lay.mono _ hle.out HQ.out) hrd.out HK.out (by omega) k hlt (by rw [HLV.out]; exact hlt) g1 a1)
        have HN := Lib.hid a2
        clear hcx hkx hI g1 g2 g3 g4 a1 a2
        generalize s.ids.getD k 0 = x at *
        go_wp2_with (first
    | ((with_reducible refine' Wl.out ?_; apply k_load hS); (· exact .mk))
          | (go_at_call 46; refine (nopass_c m' _ hS.inw _).mono ?_; rintro e' w28 ⟨_, m28, rfl, rfl, hk28⟩; replace hS := hS.grow (grownBy_of_below hk28.below); clear hk28)
          | (go_at_call 65; refine (HC.out _ hS).mono ?_; clear hS; rintro e' w32 ⟨rfl, kp2, kc2, l2, m2, hl2, hle2, hrd2, hS⟩))
        go_roundw
        case rel => exact ⟨k + 1, n + 1, kp2, kc2, l2, m2, hlt, by go_num, by omega, (by rw [hl2.out]; exact HN.out), hle.out.trans hle2, hrd2, hS⟩
        case measure => simp [intOf]; omega
    · obtain rfl : k = s.ids.length := by omega
      have hsrt := Lib.hid hI.out.sorted
      go_wp2_with (first
    | ((with_reducible refine' Wl.out ?_; apply k_load hS); (· exact .mk)))
      replace hS := hS.drew
      refine startL (S := Sx _ [(b, _)]) (by kernel_rfl) (hS.sx0.cons hS (by (repeat constructor))) (fun _ _ _ _ => trivial) (fun hHeld => ?_)
      focus (refine takeN 0 (v := ?_) rfl (by kernel_rfl) ?_ ?_; rotate_left; focus (intro w hSw; clear hSw; go_simp; try with_reducible rfl))
      try simp only [Act.put, nz1, nz2, nz3]
      focus (refine takeN 1 (v := ?_) rfl (by kernel_rfl) ?_ ?_; rotate_left; focus (intro w hSw; clear hSw; go_simp; try with_reducible rfl))
      try simp only [Act.put, nz1, nz2, nz3]
      focus (refine takeN 2 (v := ?_) rfl (by kernel_rfl) ?_ ?_; rotate_left; focus (intro w hSw; clear hSw; go_simp; try with_reducible rfl))
      try simp only [Act.put, nz1, nz2, nz3]
      refine takeN 3 rfl (by kernel_rfl) (yield_load rfl Try.underlying24 rfl rfl (by (first | (apply FindX.box; (· (repeat constructor)); rfl) | exact FindX.mem (by assumption)))) ?_
      try simp only [Act.put, nz1, nz2, nz3]
      focus (refine takeN 4 (v := ?_) rfl (by kernel_rfl) ?_ ?_; rotate_left; focus (intro w hSw; clear hSw; go_simp; try with_reducible rfl))
      try simp only [Act.put, nz1, nz2, nz3]
      focus (refine takeN 5 (v := ?_) rfl (by kernel_rfl) ?_ ?_; rotate_left; focus (intro w hSw; clear hSw; go_simp; try with_reducible rfl))
      try simp only [Act.put, nz1, nz2, nz3]
      focus (refine takeN 6 (v := ?_) rfl (by kernel_rfl) ?_ ?_; rotate_left; focus (intro w hSw; clear hSw; go_simp; try with_reducible rfl))
      try simp only [Act.put, nz1, nz2, nz3]
      refine takeN 7 rfl (by kernel_rfl) (yield_load rfl Try.underlying3 rfl rfl (by (first | (apply FindX.box; (· (repeat constructor)); rfl) | exact FindX.mem (by assumption)))) ?_
      try simp only [Act.put, nz1, nz2, nz3]
      refine wpAnyH_ready (rs := [8]) (by kernel_rfl) (by simp) ?_
      refine consL 8 rfl (fun K hK => ?_) AllReadyH.nil
      rw [if_pos (by rfl)]; go_simp; refine (letHE sortH_len (bsorted_c _ _ hS.inw _ _ hrd.out _ HK.out)).mono ?_; rintro e' w46 ⟨_, m46, rfl, ⟨p46, c46, Y46, E46, HY46, HE46, rfl, R46, C46⟩, hk⟩; replace hS := hS.call hk; have HLE := Lib.hid hk.le; clear hk; obtain rfl := HE46.out.trans hsrt.out.2; go_wp2_with fail
      refine hK.out _ _ (by first | exact (hS.sx0.cons hS (by (repeat constructor))) | exact Sx.le (by assumption) (hS.sx0.cons hS (by (repeat constructor)))) (fun hHeld => ?_)
      clear hK K
      try simp only [Act.put, nz1, nz2, nz3]
      focus (refine takeN 9 (v := ?_) rfl (by kernel_rfl) ?_ ?_; rotate_left; focus (intro w hSw; clear hSw; go_simp; try with_reducible rfl))
      try simp only [Act.put, nz1, nz2, nz3]
      focus (refine takeN 10 (v := ?_) rfl (by kernel_rfl) ?_ ?_; rotate_left; focus (intro w hSw; clear hSw; go_simp; try with_reducible rfl))
      try simp only [Act.put, nz1, nz2, nz3]
      focus (refine takeN 11 (v := ?_) rfl (by kernel_rfl) ?_ ?_; rotate_left; focus (intro w hSw; clear hSw; go_simp; try with_reducible rfl))
      try simp only [Act.put, nz1, nz2, nz3]
      focus (refine takeN 12 (v := ?_) rfl (by kernel_rfl) ?_ ?_; rotate_left; focus (intro w hSw; clear hSw; go_simp; try with_reducible rfl))
      try simp only [Act.put, nz1, nz2, nz3]
      focus (refine takeN 13 (v := ?_) rfl (by kernel_rfl) ?_ ?_; rotate_left; focus (intro w hSw; clear hSw; go_simp; try with_reducible rfl))
      try simp only [Act.put, nz1, nz2, nz3]
      refine wpAnyH_done (by kernel_rfl) ?_ _
      refine NoPanic.normal ?_
      all_goals
        go_wp2_with (first
    | ((with_reducible refine' Wl.out ?_; apply k_load hS); (· exact .mk)))
        replace hS := hS.drew
        refine startL (S := Sx _ [(b, _)]) (by kernel_rfl) (hS.sx0.cons hS (by (repeat constructor))) (fun _ _ _ _ => trivial) (fun hHeld => ?_)
        focus (refine takeN 0 (v := ?_) rfl (by kernel_rfl) ?_ ?_; rotate_left; focus (intro w hSw; clear hSw; go_simp; try with_reducible rfl))
        try simp only [Act.put, nz1, nz2, nz3]
        focus (refine takeN 1 (v := ?_) rfl (by kernel_rfl) ?_ ?_; rotate_left; focus (intro w hSw; clear hSw; go_simp; try with_reducible rfl))
        try simp only [Act.put, nz1, nz2, nz3]
        focus (refine takeN 2 (v := ?_) rfl (by kernel_rfl) ?_ ?_; rotate_left; focus (intro w hSw; clear hSw; go_simp; try with_reducible rfl))
        try simp only [Act.put, nz1, nz2, nz3]
        focus (refine takeN 3 (v := ?_) rfl (by kernel_rfl) ?_ ?_; rotate_left; focus (intro w hSw; clear hSw; go_simp; try with_reducible rfl))
        try simp only [Act.put, nz1, nz2, nz3]
        refine takeN 4 rfl (by kernel_rfl) (yield_load rfl Try.underlying3 rfl rfl (by (first | (apply FindX.box; (· (repeat constructor)); rfl) | exact FindX.mem (by assumption)))) ?_
        try simp only [Act.put, nz1, nz2, nz3]
        focus (refine takeN 5 (v := ?_) rfl (by kernel_rfl) ?_ ?_; rotate_left; focus (intro w hSw; clear hSw; go_simp; try with_reducible rfl))
        try simp only [Act.put, nz1, nz2, nz3]
        focus (refine takeN 6 (v := ?_) rfl (by kernel_rfl) ?_ ?_; rotate_left; focus (intro w hSw; clear hSw; go_simp; try with_reducible rfl))
        try simp only [Act.put, nz1, nz2, nz3]
        focus (refine takeN 7 (v := ?_) rfl (by kernel_rfl) ?_ ?_; rotate_left; focus (intro w hSw; clear hSw; go_simp; try with_reducible rfl))
        try simp only [Act.put, nz1, nz2, nz3]
        focus (refine takeN 8 (v := ?_) rfl (by kernel_rfl) ?_ ?_; rotate_left; focus (intro w hSw; clear hSw; go_simp; try with_reducible rfl))
        try simp only [Act.put, nz1, nz2, nz3]
        refine wpAnyH_done (by kernel_rfl) ?_ _
        refine NoPanic.normal ?_
        go_wp2_with fail
      all_goals
        go_ret3
        exact ⟨p46, c46, Y46, m46, _, _, HY46.out.trans hsrt.out.1, rfl, hle.out.trans HLE.out, R46, hS⟩
/-- The nearest ones. -/
noncomputable def bruteR (s : Sl) (q : List Int) (K : Int) : List Hit := if mayP s q K then near K.toNat (hitsOf s q s.ids.length) else []
theorem dN_nonneg {m : Mem} {v u : Value} {s : Sl} {q : List Int} (h : vecL.list.rd m [v] s.vecs) (hq : vecL.rd m [u] q) (k : Nat) : 0 ≤ dN (s.vecs.getD k []) q := by
  obtain ⟨_, _, rfl, _, _, _, r⟩ := Lay.list_open h
  by_cases hk : k < s.vecs.length
  · obtain ⟨_, _, _, _, _, _, hrd⟩ := r.listAt k hk
    exact (dN_in (ints_in hrd) (ints_in hq)).1
  · have e : s.vecs.getD k [] = [] := by simp [List.getD, Nat.le_of_not_lt hk]
    rw [e]
    exact (dN_in (a := []) (by simp [In16]) (ints_in hq)).1
theorem near_len (k : Nat) (l : List Hit) : (near k l).length ≤ k := by unfold near; rw [List.length_take]; omega
set_option maxRecDepth 100000 in
set_option maxHeartbeats 4000000 in
theorem brute_c (m : Mem) (w : World) (hm : m.In w) (q1 q2 : Option Addr) (c1 c2 : Nat) (s : Sl) (h : slL.rd m [.int .i64 s.dim, .slice q1 s.ids.length c1, .slice q2 s.vecs.length c2] s) (vq : Value) (q : List Int) (hq : vecL.rd m [vq] q) (K : Int) :
    Calls Try.prog 26 #[.agg #[.int .i64 s.dim, .slice q1 s.ids.length c1, .slice q2 s.vecs.length c2], vq, .int .i64 K] w (Ret w m fun v m' => ∃ p c R E, Hid (R = bruteR s q K) ∧ Hid (E = mayE s q K) ∧ v = .tuple #[.slice p R.length c, .int .i64 E] ∧ Hid (hitL.list.rd m' [.slice p R.length c] R)) := by
  have hS := St.start hm
  have A0 := Lib.hid h
  have A1 := Lib.hid hq
  obtain ⟨p, c, rfl, _⟩ := Lay.list_open hq
  obtain ⟨_, _, _, _, e, _, _, h2⟩ := slL_open h
  cases e
  have HDn := Lib.hid (dN_nonneg h2 hq)
  clear h hq h2
  by_cases hm : mayP s q K
  · have hE : Hid (mayE s q K = 0) := if_pos hm
    have hR : Hid (bruteR s q K = near K.toNat (hitsOf s q s.ids.length)) := if_pos hm
    have HM := Lib.hid hm
    clear hm
    go_enter Try.func26, Try.ntmps26
    go_wp2_with (first
    | ((with_reducible refine' Wl.out ?_; apply k_box hS); (· exact .mk); clear hS; intro _ _ hS)
    | ((with_reducible refine' Wl.out ?_; apply k_loads hS); (· exact .mk))
      | (go_at_call 44; refine (smay_c m _ hS.inw _ _ _ _ s A0.out _ q A1.out _).mono ?_; rintro e' w16 ⟨_, m16, rfl, hv16, hk⟩; replace hS := hS.grow (grownBy_of_below hk.below); clear hk; rw [hE.out] at hv16; subst hv16)
      | (go_at_call 45; refine (find_c (St.sub (ls := [_]) hS) A0.out A1.out HM.out HDn.out).mono ?_; rintro e' w27 ⟨p27, c27, R27, m27, cells27, N27, hR27, rfl, hle27, hrd27, hk⟩; replace hS := St.lendL (ls := [_]) hS hk; clear hk))
    go_ret2
    exact ⟨_, m27, rfl, ⟨p27, c27, R27, 0, hR27.out.trans hR.out.symm, hE.out.symm, rfl, hrd27⟩, hS.done⟩
  · have hE : Hid (mayE s q K = 1) := if_neg hm
    have hR : Hid (bruteR s q K = []) := if_neg hm
    clear hm
    go_enter Try.func26, Try.ntmps26
    go_wp2_with (first
    | ((with_reducible refine' Wl.out ?_; apply k_box hS); (· exact .mk); clear hS; intro _ _ hS)
    | ((with_reducible refine' Wl.out ?_; apply k_loads hS); (· exact .mk))
      | (go_at_call 44; refine (smay_c m _ hS.inw _ _ _ _ s A0.out _ q A1.out _).mono ?_; rintro e' w16 ⟨_, m16, rfl, hv16, hk⟩; replace hS := hS.grow (grownBy_of_below hk.below); clear hk; rw [hE.out] at hv16; subst hv16))
    go_ret2
    exact ⟨_, m, rfl, ⟨none, 0, [], 1, hR.out.symm, hE.out.symm, rfl, Lay.nil_rd _ _⟩, hS.done⟩
end Go.Proofs.Ytlkdjmpkapeppaa
/- The law's few, where no codes and no books are; the references' Few: whatever they say. -/
namespace Go.Proofs.Ytlkdjmpkapeppaa
set_option linter.unusedVariables false
set_option linter.unusedSimpArgs false
open Go.RowKit Go.Shelf
abbrev RetB (w : World) (m : Mem) : Ending → World → Prop := Ret w m fun v _ => ∃ B, v = .bool B
set_option maxRecDepth 100000 in
set_option maxHeartbeats 4000000 in
theorem few10_c (m : Mem) (w : World) (hm : m.In w) (q1 q2 : Option Addr) (c1 c2 : Nat) (s : Sl) (h : slL.rd m [.int .i64 s.dim, .slice q1 s.ids.length c1, .slice q2 s.vecs.length c2] s) :
    Calls Try.prog 41 #[.agg #[.int .i64 s.dim, .slice q1 s.ids.length c1, .slice q2 s.vecs.length c2]] w (RetB w m) := by
  have hS := St.start hm
  obtain ⟨_, _, _, _, e, hd, h1, h2⟩ := slL_open h
  cases e
  obtain ⟨_, _, e2, _, m2, _, r2⟩ := Lay.list_open h2
  cases e2
  have HV := Lib.hid r2
  have hl2 : s.vecs.length ≤ 9223372036854775807 := by simp only [maxLen] at m2; omega
  clear h h1 h2 r2
  go_enter Try.func41, Try.ntmps41
  go_wp2_with (first
    | ((with_reducible refine' Wl.out ?_; apply k_box (ty := 48) (y := (.tmp 0)) hS); (· exact .mk); clear hS; intro w1 b1 hS)
    | ((with_reducible refine' Wl.out ?_; apply k_load hS); (· exact .mk))
    | go_skip
    | ((with_reducible refine' Wl.out ?_; apply kg_load hS); iterate 2 (· exact .mk))
    | ((with_reducible refine' Wl.out ?_; refine' wg_case ?_ ?_) <;> (intro hgW; (try (have hg2 := hgW; simp [go_sem] at hg2)); (first | (exfalso; assumption) | ((with_reducible refine' Wl.out ?_; apply k_no hgW)) | ((with_reducible refine' Wl.out ?_; apply kg_load hS ⟨hgW⟩); (· exact .mk))); clear hgW)))
  go_loopw [8] (fun vi wr => ∃ k : Nat, k ≤ s.vecs.length ∧ vi = .int .i64 k ∧ St [] w m wr [.box b1 [.int .i64 s.dim, .slice q1 s.ids.length c1, .slice q2 s.vecs.length c2]] m) (fun vi _ => s.vecs.length - (intOf vi).toNat)
  case atStart => exact ⟨0, Nat.zero_le _, rfl, hS⟩
  case round =>
    clear hS
    obtain ⟨k, hk, rfl, hS⟩ := hrel
    by_cases hlt : k < s.vecs.length
    · obtain ⟨bv, ov, q, c, rfl, hcv, hrd⟩ := HV.out.listAt k hlt
      have hkz : (k : Int) < s.vecs.length := by omega
      clear hrd
      generalize s.vecs.getD k [] = v at *
      by_cases hbig : (100 : Int) < v.length
      · go_wp2_with (first
    | ((with_reducible refine' Wl.out ?_; apply k_box (ty := 48) (y := (.tmp 0)) hS); (· exact .mk); clear hS; intro w1 b1 hS)
    | ((with_reducible refine' Wl.out ?_; apply k_load hS); (· exact .mk))
    | go_skip
    | ((with_reducible refine' Wl.out ?_; apply kg_load hS); iterate 2 (· exact .mk))
    | ((with_reducible refine' Wl.out ?_; refine' wg_case ?_ ?_) <;> (intro hgW; (try (have hg2 := hgW; simp [go_sem] at hg2)); (first | (exfalso; assumption) | ((with_reducible refine' Wl.out ?_; apply k_no hgW)) | ((with_reducible refine' Wl.out ?_; apply kg_load hS ⟨hgW⟩); (· exact .mk))); clear hgW)))
        go_ret
        exact ⟨_, m, rfl, ⟨_, rfl⟩, hS.done⟩
      · go_wp2_with (first
    | ((with_reducible refine' Wl.out ?_; apply k_box (ty := 48) (y := (.tmp 0)) hS); (· exact .mk); clear hS; intro w1 b1 hS)
    | ((with_reducible refine' Wl.out ?_; apply k_load hS); (· exact .mk))
    | go_skip
    | ((with_reducible refine' Wl.out ?_; apply kg_load hS); iterate 2 (· exact .mk))
    | ((with_reducible refine' Wl.out ?_; refine' wg_case ?_ ?_) <;> (intro hgW; (try (have hg2 := hgW; simp [go_sem] at hg2)); (first | (exfalso; assumption) | ((with_reducible refine' Wl.out ?_; apply k_no hgW)) | ((with_reducible refine' Wl.out ?_; apply kg_load hS ⟨hgW⟩); (· exact .mk))); clear hgW)))
        go_roundw
        case rel => exact ⟨k + 1, hlt, by go_num, hS⟩
        case measure => simp [intOf]; omega
    · obtain rfl : k = s.vecs.length := by omega
      go_wp2_with (first
    | ((with_reducible refine' Wl.out ?_; apply k_box (ty := 48) (y := (.tmp 0)) hS); (· exact .mk); clear hS; intro w1 b1 hS)
    | ((with_reducible refine' Wl.out ?_; apply k_load hS); (· exact .mk))
    | go_skip
    | ((with_reducible refine' Wl.out ?_; apply kg_load hS); iterate 2 (· exact .mk))
    | ((with_reducible refine' Wl.out ?_; refine' wg_case ?_ ?_) <;> (intro hgW; (try (have hg2 := hgW; simp [go_sem] at hg2)); (first | (exfalso; assumption) | ((with_reducible refine' Wl.out ?_; apply k_no hgW)) | ((with_reducible refine' Wl.out ?_; apply kg_load hS ⟨hgW⟩); (· exact .mk))); clear hgW)))
      all_goals
        go_ret
        exact ⟨_, m, rfl, ⟨_, rfl⟩, hS.done⟩
set_option maxRecDepth 100000 in
set_option maxHeartbeats 4000000 in
theorem few11_nil (m : Mem) (w : World) (hm : m.In w) :
    Calls Try.prog 42 #[.slice none 0 0] w (Ret w m fun v _ => v = .bool true) := by
  have hS := St.start hm
  go_enter Try.func42, Try.ntmps42
  go_wp2_with fail
  refine wp_loop_rounds 1 ?_
  iterate 1 (all_goals first | (rw [rounds_succ]) | skip); (all_goals go_wp2_with fail)
  all_goals (go_ret; exact ⟨_, m, rfl, rfl, hS⟩)
set_option maxRecDepth 100000 in
set_option maxHeartbeats 4000000 in
theorem few07_nil (m : Mem) (w : World) (hm : m.In w) (d : Value) :
    Calls Try.prog 43 #[.agg #[d, .slice none 0 0]] w (Ret w m fun v _ => v = .bool true) := by
  have hS := St.start hm
  go_enter Try.func43, Try.ntmps43
  go_wp2_with (first
    | ((with_reducible refine' Wl.out ?_; apply k_box (ty := 54) (y := (.tmp 0)) hS); (· exact .mk); clear hS; intro w1 b1 hS)
    | ((with_reducible refine' Wl.out ?_; apply k_load hS); (· exact .mk)))
  refine wp_loop_rounds 1 ?_
  iterate 1 (all_goals first | (rw [rounds_succ]) | skip); (all_goals go_wp2_with (first
    | ((with_reducible refine' Wl.out ?_; apply k_box (ty := 54) (y := (.tmp 0)) hS); (· exact .mk); clear hS; intro w1 b1 hS)
    | ((with_reducible refine' Wl.out ?_; apply k_load hS); (· exact .mk))))
  all_goals (go_ret; exact ⟨_, m, rfl, rfl, hS.done⟩)
end Go.Proofs.Ytlkdjmpkapeppaa
/- The law's few and live. -/
namespace Go.Proofs.Ytlkdjmpkapeppaa
set_option linter.unusedVariables false
set_option linter.unusedSimpArgs false
open Go.RowKit Go.Shelf
abbrev book0 : Value := .agg #[.int .i64 0, .slice none 0 0]
set_option maxRecDepth 100000 in
set_option maxHeartbeats 4000000 in
theorem few17_nil (m : Mem) (w : World) (hm : m.In w) (q1 q2 : Option Addr) (c1 c2 : Nat) (s : Sl) (h : slL.rd m [.int .i64 s.dim, .slice q1 s.ids.length c1, .slice q2 s.vecs.length c2] s) (vq : Value) (q : List Int) (hq : vecL.rd m [vq] q) :
    Calls Try.prog 25 #[.agg #[.int .i64 s.dim, .slice q1 s.ids.length c1, .slice q2 s.vecs.length c2], .slice none 0 0, book0, book0, vq] w (RetB w m) := by
  have hS := St.start hm
  have A0 := Lib.hid h
  obtain ⟨p, c, rfl, _⟩ := Lay.list_open hq
  clear h hq
  go_enter Try.func25, Try.ntmps25
  go_wp2_with (first
    | ((with_reducible refine' Wl.out ?_; apply k_box (ty := 48) (y := (.tmp 0)) hS); (· exact .mk); clear hS; intro w5 b5 hS)
    | ((with_reducible refine' Wl.out ?_; apply k_box (ty := 54) (y := (.tmp 2)) hS); (· exact .mk); clear hS; intro w7 b7 hS)
    | ((with_reducible refine' Wl.out ?_; apply k_box (ty := 54) (y := (.tmp 3)) hS); (· exact .mk); clear hS; intro w8 b8 hS)
    | ((with_reducible refine' Wl.out ?_; apply k_loads hS); (· exact .mk))
    | go_skip
    | ((with_reducible refine' Wl.out ?_; apply kg_loads hS); iterate 2 (· exact .mk))
    | ((with_reducible refine' Wl.out ?_; refine' wg_case ?_ ?_) <;> (intro hgW; (try (have hg2 := hgW; simp [go_sem] at hg2)); (first | (exfalso; assumption) | ((with_reducible refine' Wl.out ?_; apply k_no hgW)) | ((with_reducible refine' Wl.out ?_; apply kg_loads hS ⟨hgW⟩); (· exact .mk))); clear hgW))
    | (go_at_call 41; refine (few10_c m _ hS.inw _ _ _ _ s A0.out).mono ?_; rintro e' w12 ⟨_, m12, rfl, ⟨B, rfl⟩, hk⟩; replace hS := hS.grow (grownBy_of_below hk.below); clear hk; cases B)
    | (go_at_call 42; refine (few11_nil m _ hS.inw).mono ?_; rintro e' w15 ⟨_, m15, rfl, rfl, hk⟩; replace hS := hS.grow (grownBy_of_below hk.below); clear hk)
    | (go_at_call 43; refine (few07_nil m _ hS.inw _).mono ?_; rintro e' w19 ⟨_, m19, rfl, rfl, hk⟩; replace hS := hS.grow (grownBy_of_below hk.below); clear hk))
  all_goals
    go_ret
    exact ⟨_, m, rfl, ⟨_, rfl⟩, hS.done⟩
def sl0 : Sl := ⟨1, [4, 5, 6], [[1], [9], [5]]⟩
theorem vec1 {m : Mem} {b : Nat} {x : Int} (h : m ⟨b, 0, none⟩ = some (.int .i16 x)) (hx : InK .i16 x) : vecL.rd m [.slice (some ⟨b, 0, none⟩) 1 1] [x] :=
  ⟨_, 1, rfl, Nat.le_refl _, by simp [maxLen], by simp [Lay.int, kBytes], rowInt (by simpa using hx) fun _ => ⟨b, 0, rfl, fun i hi => by
    have : i = 0 := by simp at hi; omega
    subst this; exact h⟩⟩
theorem live_sl {m : Mem} {b4 b5 b6 b7 b8 : Nat} (h4 : ∀ j v, [Value.int .i64 4, .int .i64 5, .int .i64 6][j]? = some v → m ⟨b4, j, none⟩ = some v)
    (h5 : m ⟨b5, 0, none⟩ = some (.int .i16 1)) (h6 : m ⟨b6, 0, none⟩ = some (.int .i16 9)) (h7 : m ⟨b7, 0, none⟩ = some (.int .i16 5))
    (h8 : ∀ j v, [Value.slice (some ⟨b5, 0, none⟩) 1 1, .slice (some ⟨b6, 0, none⟩) 1 1, .slice (some ⟨b7, 0, none⟩) 1 1][j]? = some v → m ⟨b8, j, none⟩ = some v) :
    slL.rd m [.int .i64 1, .slice (some ⟨b4, 0, none⟩) 3 3, .slice (some ⟨b8, 0, none⟩) 3 3] sl0 := by
  refine slL_mk (s := sl0) (inK64 (by decide) (by decide)) ⟨_, 3, rfl, Nat.le_refl _, by simp [maxLen], by simp [Lay.int, kBytes, sl0], rowInt ?_ fun _ => ⟨b4, 0, rfl, fun i hi => ?_⟩⟩ ⟨_, 3, rfl, Nat.le_refl _, by simp [maxLen], by decide, fun _ => ⟨b8, 0, rfl, fun i z hz => ?_⟩⟩
  · intro x hx; simp [sl0] at hx; rcases hx with rfl | rfl | rfl <;> exact inK64 (by decide) (by decide)
  · match i, hi with
    | 0, _ => exact h4 0 _ rfl
    | 1, _ => exact h4 1 _ rfl
    | 2, _ => exact h4 2 _ rfl
  · match i, hz with
    | 0, hz => cases hz; exact ⟨_, vec1 h5 ⟨by decide, by decide⟩, fun j v hj => by match j, hj with | 0, hj => exact h8 0 v hj⟩
    | 1, hz => cases hz; exact ⟨_, vec1 h6 ⟨by decide, by decide⟩, fun j v hj => by match j, hj with | 0, hj => exact h8 1 v hj⟩
    | 2, hz => cases hz; exact ⟨_, vec1 h7 ⟨by decide, by decide⟩, fun j v hj => by match j, hj with | 0, hj => exact h8 2 v hj⟩
theorem fine1 {x : Int} (h : -32767 ≤ x) : fineV [x] := ⟨by simp, by simp, by simpa using h⟩
theorem dir0 : dirOK sl0 := by
  refine ⟨by simp [sl0], by simp [sl0], rfl, fun i hi => .inr ?_⟩
  match i, hi with
  | 0, _ => exact ⟨by decide, by decide, ⟨fine1 (by decide), rfl⟩, fun j hj => by omega⟩
  | 1, _ => exact ⟨by decide, by decide, ⟨fine1 (by decide), rfl⟩, fun j hj => by (match j, hj with | 0, _ => decide)⟩
  | 2, _ => exact ⟨by decide, by decide, ⟨fine1 (by decide), rfl⟩, fun j hj => by (match j, hj with | 0, _ => decide | 1, _ => decide)⟩
theorem may0 : mayP sl0 [2] 1 := ⟨dir0, fine1 (by decide), rfl, by decide, by decide⟩
theorem brute0 : bruteR sl0 [2] 1 = [⟨1, 4⟩] := by
  have d1 : dN [1] [2] = 1 := if_pos ⟨fine1 (by decide), fine1 (by decide), rfl⟩
  have d2 : dN [9] [2] = 49 := if_pos ⟨fine1 (by decide), fine1 (by decide), rfl⟩
  have d3 : dN [5] [2] = 9 := if_pos ⟨fine1 (by decide), fine1 (by decide), rfl⟩
  have e : hitsOf sl0 [2] 3 = [⟨1, 4⟩, ⟨49, 5⟩, ⟨9, 6⟩] := by simp [hitsOf, sl0, d1, d2, d3]
  unfold bruteR
  rw [if_pos may0]
  show near 1 (hitsOf sl0 [2] 3) = _
  rw [e]
  decide +kernel
end Go.Proofs.Ytlkdjmpkapeppaa
/- The law's live. -/
namespace Go.Proofs.Ytlkdjmpkapeppaa
set_option linter.unusedVariables false
set_option linter.unusedSimpArgs false
open Go.RowKit Go.Shelf
theorem el_vec : Elem Try.prog 50 77 1 2 (.int .i16 0) := ⟨Try.underlying50, by kernel_rfl, rfl, by decide⟩
theorem el_vecs : Elem Try.prog 46 50 1 24 (.slice none 0 0) := ⟨Try.underlying46, by kernel_rfl, rfl, by decide⟩
theorem one_hit {m : Mem} {b : Nat} {x : Hit} (h : ∀ j v, [Value.int .i64 x.dist, .int .i64 x.id][j]? = some v → m ⟨b, j, none⟩ = some v) (hx : InK .i64 x.dist ∧ InK .i64 x.id) : hitL.list.rd m [.slice (some ⟨b, 0, none⟩) 1 1] [x] := by
  refine ⟨_, 1, rfl, Nat.le_refl _, by simp [maxLen], by show 1 * 16 ≤ _; decide, fun _ => ⟨b, 0, rfl, fun i z hz => ?_⟩⟩
  match i, hz with
  | 0, hz => cases hz; exact ⟨_, hitL_mk hx.1 hx.2, fun j v hj => by
      have := (List.getElem?_eq_some_iff.1 hj).1
      refine (congrArg m ?_).trans (h j v hj)
      simp⟩
set_option maxRecDepth 100000 in
set_option maxHeartbeats 4000000 in
theorem live17_c (m : Mem) (w : World) (hm : m.In w) :
    Calls Try.prog 24 #[] w (Ret w m fun v _ => v = .bool true) := by
  have hS := St.start hm
  go_enter Try.func24, Try.ntmps24
  go_wp2_with (first
    | ((with_reducible refine' Wl.out ?_; apply k_alloc hS); (· exact .mk); clear hS; intro _ _ hS)
    | ((with_reducible refine' Wl.out ?_; apply k_loads hS); (· exact .mk))
    | ((with_reducible refine' Wl.out ?_; apply k_stores hS); (· exact .mk); clear hS; intro ws hS)
    | ((with_reducible refine' Wl.out ?_; apply wl_lit el_i64 (cs := [.int .i64 4, .int .i64 5, .int .i64 6]) hS); (· decide); (· decide); (· kernel_rfl); clear hS; intro w4 b4 hS)
    | ((fail_if_success (clear L5)); (with_reducible refine' Wl.out ?_; apply wl_lit el_vec (cs := [.int .i16 1]) hS); (· decide); (· decide); (· kernel_rfl); clear hS; intro w5 b5 hS; have L5 := True.intro)
    | ((fail_if_success (clear L6)); (with_reducible refine' Wl.out ?_; apply wl_lit el_vec (cs := [.int .i16 9]) hS); (· decide); (· decide); (· kernel_rfl); clear hS; intro w6 b6 hS; have L6 := True.intro)
    | ((fail_if_success (clear L7)); (with_reducible refine' Wl.out ?_; apply wl_lit el_vec (cs := [.int .i16 5]) hS); (· decide); (· decide); (· kernel_rfl); clear hS; intro w7 b7 hS; have L7 := True.intro)
    | ((fail_if_success (clear L12)); (with_reducible refine' Wl.out ?_; apply wl_lit el_vec (cs := [.int .i16 2]) hS); (· decide); (· decide); (· kernel_rfl); clear hS; intro w12 b12 hS; have L12 := True.intro)
    | ((with_reducible refine' Wl.out ?_; apply wl_lit el_vecs (cs := [.slice (some ⟨b5, 0, none⟩) 1 1, .slice (some ⟨b6, 0, none⟩) 1 1, .slice (some ⟨b7, 0, none⟩) 1 1]) hS); (· decide); (· decide); (· kernel_rfl); clear hS; intro w8 b8 hS)
    | (go_at_call 26; refine (brute_c (World.mem _) _ (World.mem_in _) _ _ _ _ sl0 (live_sl (fun j v hj => ((hS.box 6 rfl).get j v hj).1) ((hS.box 5 rfl).get 0 _ rfl).1 ((hS.box 4 rfl).get 0 _ rfl).1 ((hS.box 3 rfl).get 0 _ rfl).1 (fun j v hj => ((hS.box 2 rfl).get j v hj).1)) _ [2] (vec1 ((hS.box 0 rfl).get 0 _ rfl).1 ⟨by decide, by decide⟩) 1).mono ?_; rintro e' w13 ⟨_, m13, rfl, ⟨p13, c13, R13, E13, hR13, hE13, rfl, RR⟩, hk⟩; have hO := hS; replace hS := hk; clear hk; obtain rfl := hE13.out.trans (if_pos may0); obtain rfl := hR13.out.trans brute0; clear hR13 hE13)
    | ((with_reducible refine' Wl.out ?_; apply wg_lit el_hit (cs := [.int .i64 1, .int .i64 4]) hS); (· rfl); (· decide); (· decide); (· kernel_rfl); clear hS; intro w21 b21 hS; obtain ⟨m21, hS21, hle21, hb21⟩ := hS.settleBox 0 rfl; replace hS := hS21; clear hS21; have R21 := Lib.hid (one_hit (x := ⟨1, 4⟩) hb21 ⟨inK64 (by decide) (by decide), inK64 (by decide) (by decide)⟩); replace RR := Lib.hid (Lay.mono _ hle21 RR.out); clear hle21 hb21)
    | (go_at_call 15; refine (same16_c _ _ hS.inw _ _ _ _ RR.out R21.out).mono ?_; rintro e' w22 ⟨_, m22, rfl, rfl, hk⟩; replace hS := hS.call hk; clear hk))
  go_ret
  exact ⟨_, m, rfl, rfl, (hO.grow (grownBy_of_below hS.done.below)).done⟩
end Go.Proofs.Ytlkdjmpkapeppaa
/- ScanNearest: what it says of lists alone. -/
namespace Go.Proofs.Ytlkdjmpkapeppaa
set_option linter.unusedVariables false
set_option linter.unusedSimpArgs false
open Go.RowKit Go.Shelf
theorem nodup_of_ids {l : List Hit} (h : (l.map Hit.id).Nodup) : l.Nodup := List.Pairwise.of_map Hit.id (fun a b hn e => hn (by rw [e])) h
noncomputable def hitAt (s : Sl) (q : List Int) (j : Nat) : Hit := ⟨dN (s.vecs.getD j []) q, s.ids.getD j 0⟩
theorem hitsOf_nodup {s : Sl} {q : List Int} {K : Int} (h : mayP s q K) : ∀ k, k ≤ s.ids.length → ((hitsOf s q k).map Hit.id).Nodup
  | 0, _ => by simp [hitsOf]
  | k + 1, hk => by
    have ih := hitsOf_nodup h k (by omega)
    unfold hitsOf
    split
    · exact ih
    · rename_i hx
      rw [List.map_append, List.nodup_append]
      refine ⟨ih, by simp, fun a ha b hb e => ?_⟩
      obtain ⟨x, hm, rfl⟩ := List.mem_map.1 ha
      simp at hb
      obtain ⟨j, hj, _, rfl⟩ := hitsOf_mem.1 hm
      exact (good_hit h (show k < s.ids.length by omega) hx).2.2.2 j hj (Eq.trans (show _ = b from e) (hb.trans (by simp [List.getD])))
/-- How many of the first slots are among R. -/
noncomputable def cntOf (s : Sl) (q : List Int) (R : List Hit) (k : Nat) : Nat := ((hitsOf s q k).filter fun x => decide (x.id ∈ R.map Hit.id)).length
theorem cnt_skip {s : Sl} {q : List Int} {R : List Hit} {k : Nat} (h : s.ids.getD k 0 = -1) : cntOf s q R (k + 1) = cntOf s q R k := by
  unfold cntOf
  rw [show hitsOf s q (k + 1) = hitsOf s q k from if_pos h]
theorem cnt_in {s : Sl} {q : List Int} {R : List Hit} {k : Nat} (h : s.ids.getD k 0 ≠ -1) (hi : s.ids.getD k 0 ∈ R.map Hit.id) : cntOf s q R (k + 1) = cntOf s q R k + 1 := by
  unfold cntOf
  rw [show hitsOf s q (k + 1) = hitsOf s q k ++ [⟨dN (s.vecs.getD k []) q, s.ids.getD k 0⟩] from if_neg h, List.filter_append, List.length_append]
  congr 1
  rw [List.filter_cons_of_pos (by simpa using hi)]
  rfl
theorem cnt_out {s : Sl} {q : List Int} {R : List Hit} {k : Nat} (h : s.ids.getD k 0 ≠ -1) (hi : s.ids.getD k 0 ∉ R.map Hit.id) : cntOf s q R (k + 1) = cntOf s q R k := by
  unfold cntOf
  rw [show hitsOf s q (k + 1) = hitsOf s q k ++ [⟨dN (s.vecs.getD k []) q, s.ids.getD k 0⟩] from if_neg h, List.filter_append, List.length_append]
  rw [List.filter_cons_of_neg (by simpa using hi)]
  rfl
/-- What the nearest ones of slots are. -/
theorem near_slots {s : Sl} {q : List Int} {K : Int} {R : List Hit} (h : mayP s q K) (hR : R = near K.toNat (hitsOf s q s.ids.length)) :
    (∀ i, i + 1 < R.length → (R.getD i hz).lt (R.getD (i + 1) hz)) ∧ (∀ x ∈ R, ∃ j, j < s.ids.length ∧ s.ids.getD j 0 ≠ -1 ∧ x = hitAt s q j) ∧
    (∀ j, j < s.ids.length → s.ids.getD j 0 ≠ -1 → s.ids.getD j 0 ∈ R.map Hit.id → hitAt s q j ∈ R) ∧
    (∀ j, j < s.ids.length → s.ids.getD j 0 ≠ -1 → s.ids.getD j 0 ∉ R.map Hit.id → R.length = K.toNat ∧ ∀ x ∈ R, ¬ (hitAt s q j).lt x) ∧
    cntOf s q R s.ids.length = R.length := by
  have hLn := hitsOf_nodup h s.ids.length (Nat.le_refl _)
  have hsub : ∀ x ∈ R, x ∈ hitsOf s q s.ids.length := fun x hx => near_sub (k := K.toNat) x (by rw [← hR]; exact hx)
  have hnd : (R.map Hit.id).Nodup := by
    have := ((srt_perm (hitsOf s q s.ids.length)).map Hit.id).nodup_iff.2 hLn
    rw [hR]
    unfold near
    rw [List.map_take]
    exact this.sublist (List.take_sublist _ _)
  have hst : R.Pairwise Hit.lt := asc_strict (by rw [hR]; exact near_asc _ _) hnd
  have hmem : ∀ j, j < s.ids.length → s.ids.getD j 0 ≠ -1 → hitAt s q j ∈ hitsOf s q s.ids.length := fun j hj hx => hitsOf_mem.2 ⟨j, hj, hx, rfl⟩
  have hinj : ∀ x ∈ hitsOf s q s.ids.length, ∀ y ∈ hitsOf s q s.ids.length, x.id = y.id → x = y := by
    intro x hx y hy e
    obtain ⟨i, hi, rfl⟩ := List.getElem_of_mem hx
    obtain ⟨j, hj, rfl⟩ := List.getElem_of_mem hy
    have hij : i = j := by
      have := (List.getElem_inj (xs := (hitsOf s q s.ids.length).map Hit.id) (i := i) (j := j) (h₀ := by simpa using hi) (h₁ := by simpa using hj) hLn).1 (by simpa using e)
      exact this
    subst hij; rfl
  have hin : ∀ j, j < s.ids.length → s.ids.getD j 0 ≠ -1 → s.ids.getD j 0 ∈ R.map Hit.id → hitAt s q j ∈ R := fun j hj hx hm => by
    obtain ⟨x, hx1, hx2⟩ := List.mem_map.1 hm
    have := hinj x (hsub x hx1) _ (hmem j hj hx) hx2
    rwa [← this]
  refine ⟨fun i hi => ?_, fun x hx => ?_, hin, fun j hj hx hm => ?_, ?_⟩
  · have := List.pairwise_iff_getElem.1 hst i (i + 1) (by omega) hi (by omega)
    simpa [List.getD, hi, show i < R.length by omega] using this
  · obtain ⟨j, h1, h2, h3⟩ := hitsOf_mem.1 (hsub x hx)
    exact ⟨j, h1, h2, h3⟩
  · have hno : hitAt s q j ∉ near K.toNat (hitsOf s q s.ids.length) := fun hh => hm (List.mem_map.2 ⟨_, by rw [hR]; exact hh, rfl⟩)
    have := near_rest (hmem j hj hx) hno
    rw [hR]
    exact this
  · unfold cntOf
    refine List.Perm.length_eq ((List.perm_ext_iff_of_nodup ?_ ?_).2 fun x => ?_)
    · exact (nodup_of_ids hLn).filter _
    · exact nodup_of_ids hnd
    · rw [List.mem_filter]
      constructor
      · rintro ⟨h1, h2⟩
        obtain ⟨y, hy, e⟩ := List.mem_map.1 (of_decide_eq_true h2)
        rwa [hinj x h1 y (hsub y hy) e.symm]
      · intro hx
        exact ⟨hsub x hx, decide_eq_true (List.mem_map.2 ⟨x, hx, rfl⟩)⟩
end Go.Proofs.Ytlkdjmpkapeppaa
