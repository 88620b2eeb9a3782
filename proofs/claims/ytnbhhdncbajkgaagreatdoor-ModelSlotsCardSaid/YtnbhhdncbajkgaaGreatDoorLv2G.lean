/- slots.Live. -/
import Derived.Test.YtnbhhdncbajkgaaGreatDoorLv1G
import Derived.Test.YtnbhhdncbajkgaaGreatDoorRgG
import Derived.Test.YtnbhhdncbajkgaaGreatDoorShelf
namespace Go.Proofs.YtnbhhdncbajkgaaGreatDoor
set_option linter.unusedVariables false
set_option linter.unusedSimpArgs false
open Go.RowKit Go.Shelf Go.Sort
theorem holds_ints {w : World} {e : TypeId} {g c n : Nat} {l : List Int} (h : w.ownsRow 0 e 1 (.slice (some ⟨g, 0, none⟩) n c) n (l.map (.int .i64))) : Holds (Value.int .i64) w g 0 l.toArray := by
  intro j hj
  have hj' : j < l.length := by simpa using hj
  have h1 : (l.map (Value.int .i64))[j]? = some (.int .i64 (l.toArray[j]!)) := by
    rw [List.getElem?_map, List.getElem?_eq_getElem hj']
    simp [hj']
  have h2 := h.cells (g := g) rfl j _ h1
  rw [Addr.add_lit, Nat.zero_add] at h2
  rw [Nat.zero_add]
  refine ⟨h2, ?_⟩
  rcases h.2 with ⟨e, _⟩ | ⟨g', cap, cur, e, hb, hg, _⟩
  · cases e
  · cases e; exact frozen_of_row _ _ _ _ _ hg
theorem ownsRow_sortedI {w : World} {e : TypeId} {g c n : Nat} {xs : List Value} (h : w.ownsRow 0 e 1 (.slice (some ⟨g, 0, none⟩) n c) n xs) (d : Array Int) (hd : d.size = n) (k : Nat) (os : Array Obj) :
    (grow (putRow (Value.int .i64) (Sort.ahead w k) g 0 d) os).ownsRow 0 e 1 (.slice (some ⟨g, 0, none⟩) n c) n (d.toList.map (.int .i64)) ∧ w.grownBy (grow (putRow (Value.int .i64) (Sort.ahead w k) g 0 d) os) (some g) := by
  rcases h.2 with ⟨e1, _⟩ | ⟨g', cap, cur, e1, hb, hg, h1, h2, h3, h4⟩
  · cases e1
  · cases e1
    have hgl : g < w.heap.size := (Array.getElem?_eq_some_iff.1 hg).1
    have hheap : (grow (putRow (Value.int .i64) (Sort.ahead w k) g 0 d) os).heap = w.heap.modify g (onCells (putCells (Value.int .i64) 0 d)) ++ os := rfl
    have hhg : (grow (putRow (Value.int .i64) (Sort.ahead w k) g 0 d) os).heap[g]? = some (.cells (putCells (Value.int .i64) 0 d cur) e (0, 0)) := by
      rw [hheap, Array.getElem?_append_left (by simpa using hgl), Array.getElem?_modify, if_pos rfl, hg]
      rfl
    refine ⟨⟨by simp [hd], .inr ⟨g, c, _, rfl, hb, hhg, h1, h2, by simpa [putCells] using h3, ?_⟩⟩, ⟨rfl, rfl, rfl, ?_, fun i hi hne => ?_⟩⟩
    · apply List.ext_getElem?
      intro i
      by_cases hi : i < n
      · have hc : i < cur.size := by omega
        have hid : i < d.size := by omega
        have e1 : (putCells (Value.int .i64) 0 d cur).toList[i]? = some (.int .i64 (d[i]!)) := by
          simp only [putCells, Array.toList_mapIdx, List.getElem?_mapIdx]
          rw [Array.getElem?_toList, Array.getElem?_eq_getElem hc]
          simp only [Option.map_some]
          rw [if_pos ⟨Nat.zero_le _, by omega⟩]
          simp
        have e2 : d.toList[i]? = some (d[i]!) := by
          rw [Array.getElem?_toList, Array.getElem?_eq_getElem hid, getElem!_pos d i hid]
        rw [List.getElem?_take_of_lt (by omega), List.getElem?_map, e1, e2]
        rfl
      · rw [List.getElem?_take_eq_none (by omega), List.getElem?_eq_none (by simp [hd]; omega)]
    · rw [hheap]; simp
    · rw [hheap, Array.getElem?_append_left (by simpa using hi), Array.getElem?_modify, if_neg (fun e => hne (by rw [e]))]
def srtI (l : List Int) : List Int := l.mergeSort fun x y => decide (x ≤ y)
theorem srtI_len (l : List Int) : (srtI l).length = l.length := List.length_mergeSort _
theorem srtI_mem {l : List Int} {x : Int} : x ∈ srtI l ↔ x ∈ l := (List.mergeSort_perm l _).mem_iff
theorem srtI_lt {l : List Int} (h : l.Nodup) : (srtI l).Pairwise (· < ·) := by
  have h1 : (srtI l).Pairwise fun x y => decide (x ≤ y) = true := List.pairwise_mergeSort (fun a b c h1 h2 => by simp at *; omega) (fun a b => by simp; omega) l
  have h2 : (srtI l).Pairwise (· ≠ ·) := ((List.mergeSort_perm l _).nodup_iff).2 h
  exact (h1.and h2).imp fun ⟨a, b⟩ => by simp at a; omega
theorem sorti_c {X : List Nat} {w0 w : World} {m0 m : Mem} {g c : Nat} {l : List Int} {es : List Ent} (hS : St X w0 m0 w (.row 2 1 (.slice (some ⟨g, 0, none⟩) l.length c) l.length (l.map (.int .i64)) :: es) m) (hN : l.length ≤ 100000) :
    Calls Tryz.prog 74 #[.slice (some ⟨g, 0, none⟩) l.length c] w fun e w' => e = .returned (.tuple #[]) ∧ St X w0 m0 w' (.row 2 1 (.slice (some ⟨g, 0, none⟩) l.length c) l.length ((srtI l).map (.int .i64)) :: es) m := by
  have hrow := hS.row 0 rfl
  have hgl : g < w.heap.size := ((hS.has _ List.mem_cons_self).1.lt g rfl)
  refine (Tryz.slices_Sort_int g 0 c l w (holds_ints hrow) hgl (by omega)).mono ?_
  rintro e w' ⟨rfl, k, os, rfl⟩
  obtain ⟨o1, o2⟩ := ownsRow_sortedI hrow (srtI l).toArray (by simp [srtI_len]) k os
  exact ⟨rfl, hS.set 0 _ (.row 2 1 (.slice (some ⟨g, 0, none⟩) l.length c) l.length ((srtI l).map (.int .i64))) rfl o2 o1 fun b hb => .inl hb⟩
/-- The ids that were met. -/
def LiveI (s : Sl) (L : List Int) (left : Lit → Bool) : Prop :=
  L.Nodup ∧ (∀ x ∈ L, (Lit.int .i64 x).wf = true) ∧ ∀ x, (Lit.int .i64 x).wf = true → (left (.int .i64 x) = true → (dirF s s.ids.length x).isSome = true) ∧ (x ∈ L ↔ (dirF s s.ids.length x).isSome = true ∧ left (.int .i64 x) = false)
/-- All ids, rising. -/
def LiveL (s : Sl) (L : List Int) : Prop := L.Pairwise (· < ·) ∧ ∀ x, x ∈ L ↔ (dirF s s.ids.length x).isSome = true
theorem LiveI.start {s : Sl} {left : Lit → Bool} (h : ∀ x, (Lit.int .i64 x).wf = true → left (.int .i64 x) = (dirF s s.ids.length x).isSome) : LiveI s [] left :=
  ⟨List.Pairwise.nil, by simp, fun x hx => ⟨fun hl => by rw [← h x hx]; exact hl, by simp; rw [h x hx]; intro h1; exact h1⟩⟩
theorem LiveI.step {s : Sl} {L : List Int} {left : Lit → Bool} (h : LiveI s L left) {x : Int} (hx : (Lit.int .i64 x).wf = true) (hl : left (.int .i64 x) = true) : LiveI s (L ++ [x]) fun z => left z && !z.sameKey (.int .i64 x) := by
  obtain ⟨h1, h2, h3⟩ := h
  have hn : x ∉ L := fun hm => by have := ((h3 x hx).2.1 hm).2; rw [hl] at this; cases this
  refine ⟨List.nodup_append.2 ⟨h1, by simp, fun a ha b hb => by simp at hb; rw [hb]; rintro rfl; exact hn ha⟩, fun y hy => ?_, fun y hy => ⟨fun hh => (h3 y hy).1 (by simp at hh; exact hh.1), ?_⟩⟩
  · rcases List.mem_append.1 hy with hy | hy
    · exact h2 y hy
    · simp at hy; rw [hy]; exact hx
  · show _ ↔ _ ∧ (left (.int .i64 y) && !(Lit.int .i64 y).sameKey (.int .i64 x)) = false
    by_cases e : y = x
    · subst e
      have hs : (Lit.int .i64 y).sameKey (.int .i64 y) = true := by simp [Lit.sameKey]
      rw [hs]
      simp
      exact (h3 y hx).1 hl
    · have hs : (Lit.int .i64 y).sameKey (.int .i64 x) = false := Maps.sameKey_ne fun e' => e (by cases e'; rfl)
      rw [hs]
      simp [e]
      exact (h3 y hy).2
theorem LiveI.done {s : Sl} {L : List Int} {left : Lit → Bool} (hd : dirOK s) (h : LiveI s L left) (hl : ∀ kl, left kl = false) : LiveL s (srtI L) := by
  refine ⟨srtI_lt h.1, fun x => ?_⟩
  rw [srtI_mem]
  constructor
  · exact fun hm => ((h.2.2 x (h.2.1 x hm)).2.1 hm).1
  · intro hs
    obtain ⟨y, hy⟩ := Option.isSome_iff_exists.1 hs
    obtain ⟨i, hi, _, hid, hz⟩ := dirF_at s _ hy
    have hw : (Lit.int .i64 x).wf = true := by
      rcases hd.2.2.2 i hi with ⟨g1, _⟩ | ⟨g1, g2, _⟩
      · exact absurd (hid.symm.trans g1) hz
      · rw [hid] at g1 g2
        exact inK_wf (inK64 (by omega) (by omega))
    exact (h.2.2 x hw).2.2 ⟨hs, hl _⟩
def LiveQ (s : Sl) (v : Value) (m' : Mem) : Prop := ∃ L q c, v = .tuple #[.slice q L.length c, .int .i64 (chkS s)] ∧ Hid (dirOK s → LiveL s L) ∧ Hid (L.length ≤ 256) ∧ Hid (i64L.list.rd m' [.slice q L.length c] L)
set_option maxRecDepth 100000 in
set_option maxHeartbeats 8000000 in
theorem live_sl_c (m : Mem) (w : World) (hm : m.In w) (v0 v1 v2 : Value) (s : Sl) (h : slL.rd m [v0, v1, v2] s) :
    Calls Tryz.prog 39 #[.agg #[v0, v1, v2]] w (Ret w m (LiveQ s)) := by
  have hS := St.start hm
  have A0 := Lib.hid h
  clear h
  by_cases hd : dirOK s
  · have hN := Lib.hid hd
    have hC : Hid (chkS s = 0) := if_pos hd
    clear hd
    go_enter Tryz.func39, Tryz.ntmps39
    go_wp2_with (first
    | ((with_reducible refine' Wl.out ?_; apply k_box (ty := 32) (y := (.tmp 0)) hS); (· exact .mk); clear hS; intro w1 b1 hS)
    | ((with_reducible refine' Wl.out ?_; apply k_loads hS); (· exact .mk))
      | (go_at_call 52; refine (directory_c m _ hS.inw _ s A0.out).mono ?_; rintro e' w10 (⟨hok, bm, nm, hnm, rfl, hk⟩ | ⟨hok, rfl, hk⟩) <;> (first | exact absurd hN.out hok | skip); replace hS := hS.callOwn hk; clear hk hok; simp only [List.cons_append, List.nil_append] at hS)
      | ((with_reducible refine' Wl.out ?_; apply wl_lenI hS mapT); (· exact rfl); (· (repeat constructor)); intro c16 hc16)
      | ((with_reducible refine' Wl.out ?_; apply wl_make0 el_ids c16 hS); (· exact rfl); (· exact rfl); (· rfl); (· omega); (· omega); (· simp only [maxLen]; omega); clear hS; intro w17 b17 hS)
      | ((with_reducible refine' Wl.out ?_; apply wl_range hS mapT (F := fun E clock => [.row 2 1 (.slice (some ⟨b17, 0, none⟩) 0 c16) 0 [], .obj bm (MapAt E clock), .box b1 [v0, v1, v2]])); (· exact rfl); (· intro _ _; repeat constructor); clear hS; intro w19 rb E clock since0 seen0 c00 D cnt0 left0 hcnt0 hlf0 hR0 hS))
    have HI0 := Lib.hid (LiveI.start hlf0)
    have HR0 := Lib.hid hR0
    clear hlf0 hR0
    go_frame
    go_loopw [6] (fun v6 wr => ∃ (L : List Int) (g c since : Nat) (seen : Array Nat) (c0 : Nat) (left : Lit → Bool) (cnt : Nat), v6 = .slice (some ⟨g, 0, none⟩) L.length c ∧ L.length + cnt ≤ nm ∧ Hid (RngP Tryz.prog 2 3 bm rb nm D E clock since seen c0 left cnt) ∧ Hid (LiveI s L left) ∧ St [] w m wr [.obj rb (IterAt bm since seen c0), .row 2 1 (.slice (some ⟨g, 0, none⟩) L.length c) L.length (L.map (.int .i64)), .obj bm (MapAt E clock), .box b1 [v0, v1, v2]] m) (fun _ wr => wr.rangeLeft bm rb)
    case atStart => exact ⟨[], b17, c16, since0, seen0, c00, left0, cnt0, rfl, by simpa using hcnt0, HR0, HI0, hS⟩
    case round =>
      clear hS HR0 HI0
      obtain ⟨L, g, c, since, seen, c0, left, cnt, rfl, hlc, HR, HI, hS⟩ := hrel
      have HM := Lib.hid (HR.out.leftEq hS (by (repeat constructor)) (by (repeat constructor)))
      go_wp2_with (first
        | ((with_reducible refine' Wl.out ?_); refine' wl_next hS (Maps.int_keyed Tryz.underlying2) Tryz.underlying2 Tryz.underlying3 (F := fun n s' c' => [.obj rb (IterAt bm n s' c'), .row 2 1 (.slice (some ⟨g, 0, none⟩) L.length c) L.length (L.map (.int .i64)), .obj bm (MapAt E clock), .box b1 [v0, v1, v2]]) ?_ HR.out ?_ ?_ (fun HLf => ?_) (fun x v w20 since' seen' c0' cnt' HWx HLx hlt HR' HEn hS => ?_); (· exact rfl); (· (repeat constructor)); (· intro _ _ _; exact .head))
        | ((with_reducible refine' Wl.out ?_; apply wl_entry); (· exact rfl); (· exact HEn.out))
        | ((with_reducible refine' Wl.out ?_; apply wl_lit el_ids (cs := [.int .i64 x]) hS); (· decide); (· decide); (· kernel_rfl); clear hS; intro w26 b26 hS)
        | ((with_reducible refine' Wl.out ?_; apply wl_appendB el_ids hS (by decide)); (· exact rfl); (· (repeat constructor)); (· exact rfl); (· (repeat constructor)); (· rfl); (· simp [Value.oneCell']); (· omega); clear hS; intro w27 q27 c27 hS)
        | (go_at_call 74; replace hS := hS.front (x := .row 2 1 _ _ _) (by (repeat constructor)); refine (sorti_c hS (by omega)).mono ?_; clear hS; rintro e' w29 ⟨rfl, hS⟩))
      · have hfin := HI.out.done hN.out HLf.out
        have hw := HI.out.2.1
        go_ret2
        obtain ⟨m2, hS2, hle2, hrd⟩ := hS.settleRow' (L := i64L) 0 (srtI_len L) rfl (of_ints fun x hx => by have := hw x (srtI_mem.1 hx); simp [Lit.wf] at this; exact this) (by rw [srtI_len]; show _ * 8 ≤ _; omega)
        have hl := srtI_len L
        exact ⟨_, m2, rfl, ⟨srtI L, some ⟨g, 0, none⟩, c, by rw [hl, hC.out]; rfl, fun _ => hfin, by show _ ≤ _; omega, by show i64L.list.rd _ _ _; rw [hl]; exact hrd⟩, ⟨hS2.done.kept, hS2.done.has, hS2.done.apart, hS2.done.know, hle2, hS2.done.new⟩⟩
      · obtain ⟨g', rfl, _, _⟩ := row_head (hS.row 2 rfl) (by omega)
        replace hS := hS.forget (x := .box b26 _) (by (repeat constructor))
        go_roundw
        case rel => exact ⟨L ++ [x], g', c27, since', seen', c0', _, cnt', by rw [List.length_append]; rfl, by rw [List.length_append]; simp only [List.length_singleton]; omega, HR', Lib.hid (HI.out.step HWx.out HLx.out), by rw [List.length_append, List.map_append]; exact hS⟩
        case measure => rw [HM.out, HR'.out.leftEq hS (by (repeat constructor)) (by (repeat constructor))]; exact hlt
  · have hC : Hid (chkS s = 1) := if_neg hd
    have hN := Lib.hid hd
    clear hd
    go_enter Tryz.func39, Tryz.ntmps39
    go_wp2_with (first
    | ((with_reducible refine' Wl.out ?_; apply k_box (ty := 32) (y := (.tmp 0)) hS); (· exact .mk); clear hS; intro w1 b1 hS)
    | ((with_reducible refine' Wl.out ?_; apply k_loads hS); (· exact .mk))
      | (go_at_call 52; refine (directory_c m _ hS.inw _ s A0.out).mono ?_; rintro e' w10 (⟨hok, bm, nm, hnm, rfl, hk⟩ | ⟨hok, rfl, hk⟩) <;> (first | exact absurd hok hN.out | skip); replace hS := hS.call hk; clear hk hok))
    go_ret2
    exact ⟨_, m, rfl, ⟨[], none, 0, by rw [hC.out]; rfl, fun h => absurd h hN.out, Nat.zero_le _, Lay.nil_rd _ _⟩, hS.done⟩
end Go.Proofs.YtnbhhdncbajkgaaGreatDoor
