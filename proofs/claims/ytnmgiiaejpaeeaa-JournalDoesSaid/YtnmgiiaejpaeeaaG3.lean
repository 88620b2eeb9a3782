/- Contracts and plain laws that the laws' proofs use, laid together (part 3). -/
import Derived.Test.YtnmgiiaejpaeeaaG2
import Derived.Test.YtnmgiiaejpaeeaaDk11
import Derived.Test.YtnmgiiaejpaeeaaStampRef2
import Derived.Test.YtnmgiiaejpaeeaaB
import Derived.ProofKit
import Derived.OpenShut
import Derived.SizedLaws
import Derived.WalkKit
import Derived.Deep.Slices
import Derived.DataReads
import Derived.ChangeSame
import Derived.Lib.SmallJoins
import Derived.Test.YtnmgiiaejpaeeaaStampRef3
/- Contract of disk.Read. -/
namespace Go.Proofs.Ytnmgiiaejpaeeaa
set_option linter.unusedVariables false
set_option linter.unusedSimpArgs false
open Go.RowKit Go.Shelf
attribute [local go_sem] Oper.semAt_some
theorem box_four' (w : World) (a b c d : List Value) (t u v x : TypeId) : BoxOf ((((w.alloc (.cells a.toArray t)).alloc (.cells b.toArray u)).alloc (.cells c.toArray v)).alloc (.cells d.toArray x)) w.heap.size a ∧ BoxOf ((((w.alloc (.cells a.toArray t)).alloc (.cells b.toArray u)).alloc (.cells c.toArray v)).alloc (.cells d.toArray x)) (w.heap.size + 1) b ∧ BoxOf ((((w.alloc (.cells a.toArray t)).alloc (.cells b.toArray u)).alloc (.cells c.toArray v)).alloc (.cells d.toArray x)) (w.heap.size + 2) c ∧ BoxOf ((((w.alloc (.cells a.toArray t)).alloc (.cells b.toArray u)).alloc (.cells c.toArray v)).alloc (.cells d.toArray x)) (w.heap.size + 3) d := by
  have h2 := box_two' w a b t u
  have h3 := BoxOf.new ((w.alloc (.cells a.toArray t)).alloc (.cells b.toArray u)) c v
  have h4 := BoxOf.new (((w.alloc (.cells a.toArray t)).alloc (.cells b.toArray u)).alloc (.cells c.toArray v)) d x
  rw [size_alloc, size_alloc] at h3
  rw [size_alloc, size_alloc, size_alloc] at h4
  exact ⟨(h2.1.alloc _).alloc _, (h2.2.alloc _).alloc _, h3.alloc _, h4⟩
theorem BoxOf.kept {W W' : World} {B T : Nat} {row : Option Nat} {vs : List Value} (h : BoxOf W T vs) (hg : W.grownBy W' row) (hr : ∀ r, row = some r → B ≤ r ∧ ∃ o : Obj, W.heap[r]? = some o ∧ o.isCells = false) : BoxOf W' T vs :=
  h.grownR hg fun e => by
    obtain ⟨_, o, ho, hc⟩ := hr T e.symm
    obtain ⟨t, ht⟩ := h
    rw [ht] at ho
    cases ho
    cases hc
theorem ownRow_kept {W W' : World} {B b n m : Nat} {e : TypeId} {row : Option Nat} {v : Value} {xs : List Value} (h : W.ownsRow b e n v m xs) (hg : W.grownBy W' row) (hr : ∀ r, row = some r → B ≤ r ∧ ∃ o : Obj, W.heap[r]? = some o ∧ o.isCells = false) : W'.ownsRow b e n v m xs := by
  refine h.kept hg ?_
  rcases h.2 with ⟨rfl, _⟩ | ⟨g, cap, cur, rfl, _, hh, _⟩
  · exact .inl rfl
  · refine .inr fun e => ?_
    obtain ⟨_, o, ho, hc⟩ := hr g e.symm
    rw [hh] at ho
    cases ho
    cases hc
theorem keepsFrom_below {B : Nat} {W W' : World} (h : Below W.heap.size W W') : KeepsFrom B W W' :=
  ⟨h.size, fun k o _ hk _ => (h.block k (Array.getElem?_eq_some_iff.1 hk).1).trans hk⟩
theorem Own.setOther {k : IntKind} {e : TypeId} {W : World} {B : Nat} {v : Value} {xs : List Int} (h : Own k e W B v xs) (T : Nat) (u : Value) (hT : T < B) : Own k e (W.setCell ⟨T, 0, none⟩ u) B v xs := by
  refine h.kept (grownBy_setCell' W T u) ?_
  rcases h.2 with ⟨rfl, _⟩ | ⟨g, cap, cur, rfl, hg, _⟩
  · exact .inl rfl
  · exact .inr fun e => by have := Option.some.inj (show some g = some T from e); omega
theorem lastOf_none {k : Int} {l : List Wr} (h : ∀ x ∈ l, x.pos ≠ k) : lastOf k l = none := by
  induction l with
  | nil => rfl
  | cons x l ih =>
    unfold lastOf
    rw [if_neg (h x (by simp)), ih (fun y hy => h y (by simp [hy]))]
theorem lastOf_prefix {k : Int} {l r : List Wr} {b : List Int} (h : lastOf k l = some b) : lastOf k (l ++ r) = some b := by
  induction l with
  | nil => cases h
  | cons x l ih =>
    unfold lastOf at h
    rw [List.cons_append]
    unfold lastOf
    split at h
    · rw [if_pos ‹_›]; exact h
    · rw [if_neg ‹_›]; exact ih h
theorem lastOf_snoc {k : Int} {l : List Wr} {x : Wr} (h : ∀ y ∈ l, y.pos ≠ k) (hx : x.pos = k) : lastOf k (l ++ [x]) = some x.b := by
  induction l with
  | nil => show (if x.pos = k then some x.b else lastOf k []) = some x.b; rw [if_pos hx]
  | cons y l ih =>
    rw [List.cons_append]
    unfold lastOf
    rw [if_neg (h y (by simp)), ih (fun z hz => h z (by simp [hz]))]
set_option maxRecDepth 100000 in
set_option maxHeartbeats 4000000 in
theorem read_any (p : Option Addr) (c : Nat) (q : Option Addr) (e : Nat) (d : Dk) (k : Int) (w : World) (h : DkAt w p c q e d) :
    Calls Try.prog 39 #[dkV p c q e d, .int .i64 k] w fun e' w' => ∃ v, e' = .returned (.tuple #[v, .int .i64 (readE d k)]) ∧ Own .u8 5 w' w.heap.size v (readB d k) ∧ Below w.heap.size w w' := by
  have hW : ∀ O1 O2 O3 O4, Below w.heap.size w ((((w.alloc O1).alloc O2).alloc O3).alloc O4) := fun O1 O2 O3 O4 => (((below_new w O1).alloc (by simp) O2).alloc (by simp; omega) O3).alloc (by simp; omega) O4
  have HW := Lib.hid hW
  have H := Lib.hid h
  clear h hW
  refine (callsIn_wide (n := 3)).1 ?_
  refine callsIn_of_wp_marks Try.func39 rfl trivial ?_ rfl
  simp only [Try.ntmps39, List.size_toArray, List.length_cons, List.length_nil, Nat.reduceAdd, Nat.reduceSub, Array.replicate_succ, Array.replicate_zero, List.push_toArray, List.append_toArray, List.nil_append, List.cons_append]
  gi_wp2
  refine ⟨trivial, (callsIn_wide.2 (alive_any p c q e d _ (H.out.below (HW.out _ _ _ _)))).mono ?_⟩
  rintro e' w2 ⟨rfl, hb2⟩
  have hs : ((((w.alloc (.cells #[.slice p d.dry.length c, .slice q d.wet.length e, .int .i64 d.fuse, .bool d.dead] 44)).alloc (.cells #[.int .i64 k] 3)).alloc (.cells #[.slice none 0 0] 22)).alloc (.cells #[.int .i64 0] 24)).heap.size = w.heap.size + 4 := by simp
  have hbb : Below w.heap.size w w2 := bel2 (HW.out _ _ _ _) hb2
  have hs2 := hb2.size
  rw [hs] at hs2
  have b3 := box_four' w [.slice p d.dry.length c, .slice q d.wet.length e, .int .i64 d.fuse, .bool d.dead] [.int .i64 k] [.slice none 0 0] [.int .i64 0] 44 3 22 24
  have B1 := Lib.hid (b3.1.below hb2)
  have B2 := Lib.hid (b3.2.1.below hb2)
  have B3 := Lib.hid (b3.2.2.1.below hb2)
  have B4 := Lib.hid (b3.2.2.2.below hb2)
  have BB := Lib.hid hbb
  have j3 := B3.out.get 0 _ rfl
  have j4 := B4.out.get 0 _ rfl
  have m3 := j3.1
  have f3 := j3.2
  have m4 := j4.1
  have f4 := j4.2
  clear b3 hbb hb2 hs j3 j4
  have retf : ∀ (W : World) (a : Act) (v0 v1 : Value), BoxOf W (w.heap.size + 2) [v0] → BoxOf W (w.heap.size + 3) [v1] → a.tmps[4]?.getD undef = .pointer (some ⟨w.heap.size + 1 + 1, 0, none⟩) → a.tmps[5]?.getD undef = .pointer (some ⟨w.heap.size + 1 + 1 + 1, 0, none⟩) → (results Try.f39 a.tmps).run Try.prog W = .ok (.tuple #[v0, v1]) W := fun W a v0 v1 h0 h1 ha hb => by
    have c0 := (h0.get 0 _ rfl).1
    have c1 := (h1.get 0 _ rfl).1
    simp [results, Try.results39, ha, hb, asAddr, run_loadVar_one c0 Try.underlying22 rfl, run_loadVar_one c1 Try.underlying24 rfl]
  have j0 := (B1.out.get 0 _ rfl).1
  have j1 := (B1.out.get 1 _ rfl).1
  have j2 := (B1.out.get 2 _ rfl).1
  have j3 := (B1.out.get 3 _ rfl).1
  have jk := (B2.out.get 0 _ rfl).1
  by_cases ha : aliveE d = 0
  · have HA := Lib.hid ha
    rw [ha]
    clear ha
    gi_wp2
    refine ⟨trivial, (callsIn_wide.2 (far_any p c q e d k _ (H.out.below BB.out))).mono ?_⟩
    rintro e' w4 ⟨rfl, hb4⟩
    have B1' := Lib.hid (B1.out.below hb4)
    have B2' := Lib.hid (B2.out.below hb4)
    have B3' := Lib.hid (B3.out.below hb4)
    have B4' := Lib.hid (B4.out.below hb4)
    have BB' := Lib.hid (bel2 BB.out hb4)
    have hs4 := hb4.size
    clear j0 j1 j2 j3 jk m3 m4 f3 f4 B1 B2 B3 B4 BB hb4
    have j0 := (B1'.out.get 0 _ rfl).1
    have j1 := (B1'.out.get 1 _ rfl).1
    have jk := (B2'.out.get 0 _ rfl).1
    have m3 := (B3'.out.get 0 _ rfl).1
    have f3 := (B3'.out.get 0 _ rfl).2
    have m4 := (B4'.out.get 0 _ rfl).1
    have f4 := (B4'.out.get 0 _ rfl).2
    cases hF : farD d k
    · have HF := Lib.hid hF
      clear hF
      gi_wp2
      refine ⟨trivial, (back_in Fence.wide 2 trivial rfl q d.wet.length e _).mono ?_⟩
      rintro e' w5 ⟨rfl, rfl⟩
      gi_wp2
      have hok : checkOK d := by
        have := HA.out
        unfold aliveE at this
        split at this
        · assumption
        · omega
      have HK := Lib.hid hok
      obtain ⟨W0, hW0⟩ : ∃ W0, W0 = w4.alloc (.cells #[.slice q d.wet.length e] 42) := ⟨_, rfl⟩
      rw [← hW0]
      have hWb : Below w4.heap.size w4 W0 := by rw [hW0]; exact below_new w4 _
      have hsz : W0.heap.size = w4.heap.size + 1 := by rw [hW0]; simp
      have hcB : W0.cell? ⟨w4.heap.size, 0, none⟩ = some (.slice q d.wet.length e) := by rw [hW0, cell_of_row _ _ _ _ _ _ (heap_alloc_new w4 _)]; rfl
      have C1 := Lib.hid (B1'.out.below hWb)
      have C2 := Lib.hid (B2'.out.below hWb)
      have C3 := Lib.hid (B3'.out.below hWb)
      have C4 := Lib.hid (B4'.out.below hWb)
      have BW := Lib.hid (bel2 BB'.out hWb)
      have hz := back_stops Fence.wide 2 trivial rfl (by decide) w4.heap.size W0.heap.size q e d.wet hok.2.2.2.1 w W0 H.out.rw (fun x hx => by have := (placed_of_ok hok x hx).2.2; omega) BW.out (by omega) (Nat.le_refl _) BW.out.size hcB
      clear hok j0 j1 jk m3 m4 f3 f4 hW0 hcB
      refine wpIn_rangeFunc_ownH (n := 3) rfl (by decide) rfl trivial (enters_of Try.func95 (by kernel_rfl) rfl) hz belowK_t (belowK_b (Nat.le_refl _)) (Below.refl _ _) (fun _ => rfl)
        (fun pre W => BoxOf W w.heap.size [.slice p d.dry.length c, .slice q d.wet.length e, .int .i64 d.fuse, .bool d.dead] ∧ BoxOf W (w.heap.size + 1) [.int .i64 k] ∧ BoxOf W (w.heap.size + 2) [.slice none 0 0] ∧ BoxOf W (w.heap.size + 3) [.int .i64 0] ∧ Below w.heap.size w W ∧ Hid (∀ x ∈ pre, x.x.pos ≠ k) ∧ W0.heap.size ≤ W.heap.size)
        (fun cd pre W => cd = .ret ∧ ∃ v b, BoxOf W (w.heap.size + 2) [v] ∧ BoxOf W (w.heap.size + 3) [.int .i64 0] ∧ Own .u8 5 W w.heap.size v b ∧ Below w.heap.size w W ∧ Hid (lastOf k (pre.map (·.x)) = some b))
        ?hI ?hIx ⟨C1.out, C2.out, C3.out, C4.out, BW.out, by simp [Hid], Nat.le_refl _⟩
        (fun x a' W => ∃ Bx, W0.heap.size ≤ Bx ∧ BoxOf W Bx [.int .i64 x.x.pos, .slice x.q x.x.b.length x.c] ∧ a' = { tmps := #[dkV p c q e d, .int .i64 k, .pointer (some ⟨w.heap.size, 0, none⟩), .pointer (some ⟨w.heap.size + 1, 0, none⟩), .pointer (some ⟨w.heap.size + 1 + 1, 0, none⟩), .pointer (some ⟨w.heap.size + 1 + 1 + 1, 0, none⟩), .int .i64 0, undef, .pointer (some ⟨Bx, 0, none⟩), .agg #[.slice p d.dry.length c, .slice q d.wet.length e, .int .i64 d.fuse, .bool d.dead], .int .i64 0, .int .i64 0, .bool false, undef, .agg #[.slice p d.dry.length c, .slice q d.wet.length e, .int .i64 d.fuse, .bool d.dead], .int .i64 k, .bool false, .pointer (some ⟨w.heap.size, 1, none⟩), .slice q d.wet.length e, .func (.func 95) #[] #[.pointer (some ⟨w4.heap.size, 0, none⟩)], .int .i64 x.i, .agg #[.int .i64 x.x.pos, .slice x.q x.x.b.length x.c], undef, undef, undef, undef, undef, undef, undef, undef, undef, undef, undef, undef], defers := [] })
        ?hAx ?assign ?body ?done ?stop
      case hI => exact fun s X Y row hs hg hr => ⟨hs.1.kept hg hr, hs.2.1.kept hg hr, hs.2.2.1.kept hg hr, hs.2.2.2.1.kept hg hr, hs.2.2.2.2.1.grown hg (by have := hs.2.2.2.2.1.size; omega) (fun r e => by have := (hr r e).1; have := BW.out.size; omega), hs.2.2.2.2.2.1, Nat.le_trans hs.2.2.2.2.2.2 hg.size⟩
      case hIx =>
        intro cd s X Y row hs hg hr
        obtain ⟨h0, v, b, g1, g2, g3, g4, g5⟩ : cd = Code.ret ∧ ∃ v b, BoxOf X (w.heap.size + 2) [v] ∧ BoxOf X (w.heap.size + 3) [.int .i64 0] ∧ Own .u8 5 X w.heap.size v b ∧ Below w.heap.size w X ∧ Hid (lastOf k (s.map (·.x)) = some b) := hs
        exact ⟨h0, v, b, g1.kept hg hr, g2.kept hg hr, ownRow_kept g3 hg hr, g4.grown hg (by have := g4.size; omega) (fun r e => by have := (hr r e).1; have := BW.out.size; omega), g5⟩
      case hAx =>
        intro x a' s X Y row hs hg hr
        obtain ⟨Bx, g1, g2, g3⟩ := hs
        exact ⟨Bx, g1, g2.kept hg hr, g3⟩
      case assign =>
        rintro l pre x W K ⟨i1, i2, i3, i4, i5, i6, i7⟩ hK
        gi_wp2
        exact hK _ _ ((KeepsOthers.alloc _ _).from _) ((Below.refl _ W).alloc (by omega) _) ⟨i1.alloc _, i2.alloc _, i3.alloc _, i4.alloc _, i5.alloc (by have := i5.size; omega) _, i6, by simp; omega⟩ ⟨W.heap.size, i7, BoxOf.new W [.int .i64 x.x.pos, .slice x.q x.x.b.length x.c] _, rfl⟩
      case body =>
        rintro l pre x a' W hl ⟨r, hr⟩ ⟨i1, i2, i3, i4, i5, i6, i7⟩ ⟨Bx, hBx, bX, rfl⟩ hlt
        have bx0 := (bX.get 0 _ rfl).1
        have bx1 := (bX.get 1 _ rfl).1
        have jk := (i2.get 0 _ rfl).1
        have m3 := (i3.get 0 _ rfl).1
        have f3 := (i3.get 0 _ rfl).2
        have m4 := (i4.get 0 _ rfl).1
        have f4 := (i4.get 0 _ rfl).2
        by_cases hx : x.x.pos = k
        · have hxk := Lib.hid hx
          have e1 : (x.x.pos == k) = true := by rw [hx]; simp
          clear hx m3 m4 f3 f4
          gi_wp2
          refine ⟨trivial, (CallsIn.inRound l (callsIn_wide.2 (clone_rd x.q x.c x.x.b _ (x.rd.below i5) x.hb))).mono ?_⟩
          rintro e' W2 ⟨v, rfl, ho, hb⟩
          obtain ⟨p', c', rfl, _⟩ := ho.rd
          have k1 := i3.below hb
          have k2 := i4.below hb
          have kb := bel2 i5 hb
          have m3 := (k1.get 0 _ rfl).1
          have f3 := (k1.get 0 _ rfl).2
          have m4 := (k2.get 0 _ rfl).1
          have f4 := (k2.get 0 _ rfl).2
          gi_wp2
          have hsW := i5.size
          refine ⟨(keepsFrom_below hb).trans (((KeepsOthers.setCell _ _ _).from _).trans ((KeepsOthers.setCell _ _ _).from _)), rfl, _, x.x.b, (k1.set 0 _).setOther _ _ (by show w.heap.size + 2 ≠ w.heap.size + 3; omega), (k2.setOther _ _ (by show w.heap.size + 3 ≠ w.heap.size + 2; omega)).set 0 _, ?_, (kb.setCell (p := ⟨w.heap.size + 1 + 1, 0, none⟩) (by show w.heap.size ≤ w.heap.size + 1 + 1; omega) _).setCell (p := ⟨w.heap.size + 1 + 1 + 1, 0, none⟩) (by show w.heap.size ≤ w.heap.size + 1 + 1 + 1; omega) _, ?_⟩
          · exact ((ho.setOther _ _ (by show w.heap.size + 1 + 1 < _; omega)).setOther _ _ (by show w.heap.size + 1 + 1 + 1 < _; omega)).base hsW
          · show lastOf k (List.map (·.x) (pre ++ [x])) = _
            rw [List.map_append]
            exact lastOf_snoc (fun y hy => by obtain ⟨z, hz, rfl⟩ := List.mem_map.1 hy; exact i6 z hz) hxk.out
        · have hxk := Lib.hid hx
          have e1 : (x.x.pos == k) = false := by simp [hx]
          clear hx
          gi_wp2
          exact ⟨KeepsFrom.refl _ _, Below.refl _ _, i1, i2, i3, i4, i5, by
            show ∀ y ∈ pre ++ [x], y.x.pos ≠ k
            intro y hy
            rcases List.mem_append.1 hy with h | h
            · exact i6 y h
            · rw [List.mem_singleton.1 h]; exact hxk.out, by omega⟩
      case done =>
        rintro D ys W hD hSs ⟨i1, i2, i3, i4, i5, i6, i7⟩ hK
        have j0 := (i1.get 0 _ rfl).1
        have jk := (i2.get 0 _ rfl).1
        have hok := HK.out
        have hf := HF.out
        have hk2 : (0 : Int) ≤ k ∧ k < ((d.dry.length / 32 : Nat) : Int) := by
          unfold farD at hf
          simp only [decide_eq_false_iff_not] at hf
          omega
        obtain ⟨kn, rfl⟩ : ∃ kn : Nat, k = kn := ⟨k.toNat, by omega⟩
        have hkn : (kn + 1) * 32 ≤ d.dry.length := by omega
        obtain ⟨b, o, rfl, hcells⟩ := H.out.rd (by omega)
        have hc1 := H.out.c1
        have hc2 := H.out.c2
        have Hc := Lib.hid hcells
        have Hok := Lib.hid hok
        clear hcells hok hf
        gi_wp2
        refine ⟨trivial, (callsIn_wide.2 (cut_any b o d.dry.length c kn _ hkn hc1 hc2)).mono ?_⟩
        rintro e' W1 ⟨rfl, rfl⟩
        have hl32 : ((d.dry.take (kn * 32 + 32)).drop (kn * 32)).length = 32 := by simp; omega
        have hcs : ∀ i, i < (d.dry.take (kn * 32 + 32)).length → w.cell? ⟨b, o + i, none⟩ = some (.int .u8 ((d.dry.take (kn * 32 + 32)).getD i 0)) := by
          intro i hi
          have h1 : i < kn * 32 + 32 := by simp at hi; omega
          rw [Hc.out i (by simp at hi; omega)]
          simp only [List.getD, List.getElem?_take_of_lt h1]
        have hcl := clone_rd (some ⟨b, o + kn * 32, none⟩) (c - kn * 32) ((d.dry.take (kn * 32 + 32)).drop (kn * 32)) W ((Rd.part hcs (kn * 32)).below i5) (by rw [hl32]; decide)
        clear hcs
        rw [hl32] at hcl
        gi_wp2
        refine ⟨trivial, (callsIn_wide.2 hcl).mono ?_⟩
        rintro e' W2 ⟨v, rfl, ho, hb⟩
        obtain ⟨p', c', rfl, _⟩ := ho.rd
        rw [hl32] at ho ⊢
        have k1 := i3.below hb
        have k2 := i4.below hb
        have kb := bel2 i5 hb
        have m3 := (k1.get 0 _ rfl).1
        have f3 := (k1.get 0 _ rfl).2
        have m4 := (k2.get 0 _ rfl).1
        have f4 := (k2.get 0 _ rfl).2
        clear hcl hl32
        have hKW : W2.heap[D]? = some (.deferred (some [])) := (hb.block D (Array.getElem?_eq_some_iff.1 hK).1).trans hK
        gi_wp2
        have hKW' : (((W2.setCell ⟨w.heap.size + 1 + 1, 0, none⟩ (.slice p' 32 c')).setCell ⟨w.heap.size + 1 + 1 + 1, 0, none⟩ (.int .i64 0))).heap[D]? = some (.deferred (some [])) := (KeepsOthers.setCell _ _ _).same D _ ((KeepsOthers.setCell _ _ _).same D _ hKW rfl) rfl
        have hsW := i5.size
        refine ⟨by simp, .inl ⟨_, _, rfl, run_takeDeferred hKW', ?_⟩⟩
        have b1 := (k1.set 0 (.slice p' 32 c')).setOther ⟨w.heap.size + 1 + 1 + 1, 0, none⟩ (.int .i64 0) (by show w.heap.size + 2 ≠ w.heap.size + 3; omega)
        have b2 := (k2.setOther ⟨w.heap.size + 1 + 1, 0, none⟩ (.slice p' 32 c') (by show w.heap.size + 3 ≠ w.heap.size + 2; omega)).set 0 (.int .i64 0)
        have b3 := ((ho.setOther (w.heap.size + 1 + 1) (.slice p' 32 c') (by omega)).setOther (w.heap.size + 1 + 1 + 1) (.int .i64 0) (by omega)).base hsW
        have b4 := (kb.setCell (p := ⟨w.heap.size + 1 + 1, 0, none⟩) (by show w.heap.size ≤ w.heap.size + 1 + 1; omega) (.slice p' 32 c')).setCell (p := ⟨w.heap.size + 1 + 1 + 1, 0, none⟩) (by show w.heap.size ≤ w.heap.size + 1 + 1 + 1; omega) (.int .i64 0)
        have hr : ∀ r, some D = some r → W0.heap.size ≤ r ∧ ∃ o : Obj, ((W2.setCell ⟨w.heap.size + 1 + 1, 0, none⟩ (.slice p' 32 c')).setCell ⟨w.heap.size + 1 + 1 + 1, 0, none⟩ (.int .i64 0)).heap[r]? = some o ∧ o.isCells = false := fun r e => by cases e; exact ⟨by omega, _, hKW', rfl⟩
        have hg := grownBy_putObj' ((W2.setCell ⟨w.heap.size + 1 + 1, 0, none⟩ (.slice p' 32 c')).setCell ⟨w.heap.size + 1 + 1 + 1, 0, none⟩ (.int .i64 0)) D (.deferred none)
        have e1 : readE d kn = 0 := by unfold readE; rw [if_neg (by rw [HA.out]; decide), if_neg (by rw [HF.out]; decide)]
        have e2 : readB d kn = (d.dry.take (kn * 32 + 32)).drop (kn * 32) := by
          unfold readB
          rw [if_neg (by rw [e1]; decide), ← hSs, lastOf_none (fun y hy => by obtain ⟨z, hz, rfl⟩ := List.mem_map.1 hy; exact i6 z hz)]
          rfl
        exact ⟨_, retf _ _ _ (.int .i64 0) (b1.kept hg hr) (b2.kept hg hr) rfl rfl, _, by rw [e1], by rw [e2]; exact ownRow_kept b3 hg hr, b4.trans (belowK_b (w := w) (Nat.le_refl _) _ D _ _ (by omega) hKW' rfl rfl)⟩
      case stop =>
        rintro D cd pre W hD hSp ⟨rfl, v, b, g1, g2, g3, g4, g5⟩ hK
        gi_wp2
        refine ⟨by simp, .inl ⟨_, _, rfl, run_takeDeferred hK, ?_⟩⟩
        have hr : ∀ r, some D = some r → W0.heap.size ≤ r ∧ ∃ o : Obj, W.heap[r]? = some o ∧ o.isCells = false := fun r e => by cases e; exact ⟨by omega, _, hK, rfl⟩
        have hg := grownBy_putObj' W D (.deferred none)
        have e1 : readE d k = 0 := by unfold readE; rw [if_neg (by rw [HA.out]; decide), if_neg (by rw [HF.out]; decide)]
        have e2 : readB d k = b := by
          obtain ⟨t, ht⟩ := hSp
          unfold readB
          rw [if_neg (by rw [e1]; decide), ← ht, lastOf_prefix g5.out]
          rfl
        exact ⟨_, retf _ _ v (.int .i64 0) (g1.kept hg hr) (g2.kept hg hr) rfl rfl, _, by rw [e1], by rw [e2]; exact ownRow_kept g3 hg hr, g4.trans (belowK_b (w := w) (Nat.le_refl _) W D _ _ (by omega) hK rfl rfl)⟩
    · have e1 : readE d k = 5 := by unfold readE; rw [if_neg (by rw [HA.out]; decide), if_pos hF]
      have e2 : readB d k = [] := by unfold readB; rw [if_pos (by rw [e1]; decide)]
      have E1 := Lib.hid e1
      have E2 := Lib.hid e2
      clear hF e1 e2
      gi_wp2
      exact ⟨_, retf _ _ (.slice none 0 0) (.int .i64 5) ((B3'.out.set 0 _).setOther _ _ (by show w.heap.size + 2 ≠ w.heap.size + 3; omega)) ((B4'.out.setOther _ _ (by show w.heap.size + 3 ≠ w.heap.size + 2; omega)).set 0 _) rfl rfl, _, by rw [E1.out], by rw [E2.out]; exact Own.nil _ _ _ _, (BB'.out.setCell (p := ⟨w.heap.size + 1 + 1, 0, none⟩) (by show w.heap.size ≤ w.heap.size + 1 + 1; omega) _).setCell (p := ⟨w.heap.size + 1 + 1 + 1, 0, none⟩) (by show w.heap.size ≤ w.heap.size + 1 + 1 + 1; omega) _⟩
  · have ha' : (aliveE d != 0) = true := by rw [bne_iff_ne]; exact ha
    have e1 : readE d k = aliveE d := if_pos ha
    have e2 : readB d k = [] := by unfold readB; rw [if_pos (by rw [e1]; exact ha)]
    have E1 := Lib.hid e1
    have E2 := Lib.hid e2
    generalize aliveE d = A at *
    clear e1 e2 ha
    gi_wp2
    exact ⟨_, retf _ _ (.slice none 0 0) (.int .i64 A) ((B3.out.set 0 _).setOther _ _ (by show w.heap.size + 2 ≠ w.heap.size + 3; omega)) ((B4.out.setOther _ _ (by show w.heap.size + 3 ≠ w.heap.size + 2; omega)).set 0 _) rfl rfl, _, by rw [E1.out], by rw [E2.out]; exact Own.nil _ _ _ _, (BB.out.setCell (p := ⟨w.heap.size + 1 + 1, 0, none⟩) (by show w.heap.size ≤ w.heap.size + 1 + 1; omega) _).setCell (p := ⟨w.heap.size + 1 + 1 + 1, 0, none⟩) (by show w.heap.size ≤ w.heap.size + 1 + 1 + 1; omega) _⟩
end Go.Proofs.Ytnmgiiaejpaeeaa
/- Contracts over the state of a walk: disk.Read, disk.Lit, the reference's New and SameBytes. -/
namespace Go.Proofs.Ytnmgiiaejpaeeaa
set_option linter.unusedVariables false
set_option linter.unusedSimpArgs false
open Go.RowKit Go.Shelf
theorem readB_inK {d : Dk} (h : (∀ x ∈ d.dry, InK .u8 x) ∧ ∀ y ∈ d.wet, ∀ x ∈ y.b, InK .u8 x) (k : Int) : ∀ x ∈ readB d k, InK .u8 x := by
  intro x hx
  unfold readB at hx
  split at hx
  · simp at hx
  · cases hl : lastOf k d.wet.reverse with
    | none => rw [hl] at hx; exact h.1 x (List.mem_of_mem_take (List.mem_of_mem_drop hx))
    | some b =>
      rw [hl] at hx
      obtain ⟨y, hy, rfl⟩ := lastOf_mem hl
      exact h.2 y (by simpa using hy) x hx
theorem readB_length {d : Dk} (h : d.dry.length ≤ 140737488355328) (h2 : ∀ y ∈ d.wet, y.b.length ≤ 140737488355328) (k : Int) : (readB d k).length ≤ 140737488355328 := by
  unfold readB
  split
  · simp
  · cases hl : lastOf k d.wet.reverse with
    | none => simp; omega
    | some b =>
      obtain ⟨y, hy, rfl⟩ := lastOf_mem hl
      exact h2 y (by simpa using hy)
theorem wet_len {m : Mem} {p : Option Addr} {ws : List Wr} (h : Row wrL m p ws) : ∀ y ∈ ws, y.b.length ≤ 140737488355328 := fun y hy => by
  obtain ⟨i, hi, rfl⟩ := List.getElem_of_mem hy
  obtain ⟨b, o, cs, _, h1, _⟩ := h.get i hi
  obtain ⟨v, rfl, _, hv⟩ := wrL_open h1
  obtain ⟨q, c, _, _, _, k3, _⟩ := Lay.list_open hv
  simpa [Lay.int, kBytes] using k3
theorem read_c (m : Mem) (w : World) (hm : m.In w) (cs : List Value) (d : Dk) (h : dkL.rd m cs d) (k : Int) :
    Calls Try.prog 39 #[.agg cs.toArray, .int .i64 k] w (RetBE w m (readB d k) (readE d k)) := by
  have ho := octets_of h
  obtain ⟨v0, v1, _, h0, h1, _⟩ := dkL_open h
  obtain ⟨_, _, _, _, _, a3, _⟩ := Lay.list_open h0
  obtain ⟨_, _, _, _, _, _, b4⟩ := Lay.list_open h1
  obtain ⟨p, c, q, e, he, hd⟩ := dkL_at h hm
  rw [he]
  refine (read_any p c q e d k w hd).mono ?_
  rintro e' w' ⟨v, rfl, hr, hb⟩
  have hS := (St.start hm).add (.row 5 1 v (readB d k).length ((readB d k).map (.int .u8))) (grownBy_of_below hb) (Own.base (b' := 0) hr (Nat.zero_le _)) (fun bl hbl => by
    rcases hr.2 with ⟨rfl, _⟩ | ⟨g, cap, cur, rfl, hg, _⟩
    · cases hbl
    · cases hbl; exact hg)
  exact bclose_own rfl rfl hS (readB_inK ho k) (readB_length (by simpa [Lay.int, kBytes] using a3) (wet_len b4) k)
set_option maxRecDepth 100000 in
set_option maxHeartbeats 4000000 in
theorem lit_c (m : Mem) (w : World) (hm : m.In w) (cs : List Value) (d : Dk) (h : dkL.rd m cs d) (f : Int) :
    Calls Try.prog 46 #[.agg cs.toArray, .int .i64 f] w (RetDE w m (litD d f) (litE d f)) := by
  have hh := h
  obtain ⟨v0, v1, rfl, h0, h1, _⟩ := dkL_open h
  obtain ⟨p0, c0, rfl, a1, a2, _, a4⟩ := Lay.list_open h0
  obtain ⟨p1, c1, rfl, b1, b2, b3, b4⟩ := Lay.list_open h1
  have hS := St.start hm
  have HH := Lib.hid hh
  have HR := Lib.hid a4.inK
  clear h h0 h1 b3 hh a1 a2 a4 b1 b2 b4
  cases hdd : d.dead
  all_goals
    rw [hdd] at HH
    have HD := Lib.hid hdd
    clear hdd
    rcases checkE_cases d with ⟨hE, hok⟩ | ⟨hE, hok⟩
    all_goals
      have HK := Lib.hid hok
      have HA := Lib.hid (show aliveE d = _ by first | exact (alive_of HD.out).1 hok | exact (alive_of HD.out).2 hok)
      clear hE hok
      go_enter Try.func46, Try.ntmps46
      go_wp2_with (first 
    | ((with_reducible apply l_box (ty := 44) (y := (.tmp 0)) hS); (· (first | (go_simp; done) | (go_simp; with_reducible rfl))); (· exact rfl); clear hS; intro w2 b2 hS)
    | ((with_reducible apply l_alloc (ty := 44) (dst := some 4) hS (.agg #[.slice none 0 0, .slice none 0 0, .int .i64 0, .bool false]) [.slice none 0 0, .slice none 0 0, .int .i64 0, .bool false]); (· kernel_rfl); (· rfl); clear hS; intro w4 b4 hS)
    | ((with_reducible apply l_loads hS); (· (first | exact rowT44)); (· exact rfl); (· (first | (apply Finds.box; (· (repeat constructor)); (· (repeat constructor)); done) | (refine Finds.mem2 (by assumption) ?_; first | rfl | assumption | (simp; done)) | (apply Finds.row; (· (repeat constructor)); (· assumption); (· rfl)))))
    | ((with_reducible apply g_loads hS); (· (first | exact rowT44)); (· (first | rfl | (go_simp; done))); (· exact rfl); (· (first | (apply Finds.box; (· (repeat constructor)); (· (repeat constructor)); done) | (refine Finds.mem2 (by assumption) ?_; first | rfl | assumption | (simp; done)) | (apply Finds.row; (· (repeat constructor)); (· assumption); (· rfl)))))
    | ((with_reducible apply l_store hS); (· (first | exact rowT3)); (· exact rfl); (· (first | (go_simp; done) | (go_simp; with_reducible rfl))); (· (first | rfl | assumption | (simp [Value.oneCell']; done))); (· (repeat constructor)); (· (repeat constructor)); (· (repeat constructor)); clear hS; intro ws hS)
    | ((with_reducible apply l_storeR hS); (· (first | exact rowT3)); (· exact rfl); (· (first | (go_simp; done) | (go_simp; with_reducible rfl))); (· (first | rfl | assumption | (simp [Value.oneCell']; done))); (· (repeat constructor)); (· (first | assumption | omega | (simp; omega))); clear hS; intro ws hS)
    | ((with_reducible apply l_stores hS); (· (first | exact rowT44)); (· exact rfl); (· exact rfl); (· exact rfl); (· (first | assumption | (simp [Value.oneCell']; done))); (· (repeat constructor)); (· (repeat constructor)); (· (repeat constructor)); clear hS; intro ws hS)
        | (go_at_call 69; refine (alive_c _ _ hS.inw _ _ HH.out).mono ?_; rintro e' w5 ⟨v5, m5, rfl, rfl, hk⟩; rw [HA.out]; simp only [if_true, Bool.false_eq_true, if_false]; replace hS := hS.call hk; have hle := hk.le; clear hk)
        | (go_at_call 77; refine (own_c _ _ hS.inw _ _ (dkL.mono hle HH.out)).mono ?_; rintro e' w6 ⟨vd, vq, cells, m6, rfl, hc, hk⟩; rw [HD.out]; replace hS := hS.callOwn hk; simp only [List.cons_append, List.nil_append] at hS; obtain ⟨qd, cd, rfl⟩ := row_form (hS.row 0 rfl); obtain ⟨qq, cq, rfl⟩ := row_form (hS.row 1 rfl); have HC := Lib.hid hc; clear hc hk))
      all_goals
        refine ret_cell_tmp (n := 4) rfl rfl hS (by (repeat constructor)) (by rfl) dkRow rfl ?_
        have A := HA.out
        (try simp only [if_true, Bool.false_eq_true, if_false] at A)
        first
        | (have E : litE d f = 1 := by (unfold litE; rw [A]; first | rw [if_pos (by omega)] | rw [if_neg (by omega)])
           exact close_err E (by unfold litD; rw [E]; rfl) hS)
        | (have E : litE d f = 11 := by (unfold litE; rw [A]; first | rw [if_pos (by omega)] | rw [if_neg (by omega)])
           exact close_err E (by unfold litD; rw [E]; rfl) hS)
        | (have E : litE d f = 0 := by (unfold litE; rw [A]; first | rw [if_pos (by omega)] | rw [if_neg (by omega)])
           have D : litD d f = { d with fuse := f } := by unfold litD; rw [if_pos E]
           rw [D]
           exact close_own E rfl HD.out (inK64 (by omega) (by omega)) hS HR.out HC.out (ok_big HK.out).1 (ok_big HK.out).2)
set_option maxRecDepth 100000 in
set_option maxHeartbeats 4000000 in
theorem rnew_c (m : Mem) (w : World) (hm : m.In w) (n : Int) : Calls Try.prog 50 #[.int .i64 n] w (RetDE w m (newD n) (newE n)) := by
  have hS := St.start hm
  by_cases h : 1 ≤ n ∧ n ≤ 8192
  · obtain ⟨k, rfl⟩ : ∃ k : Nat, n = k := ⟨n.toNat, by omega⟩
    obtain ⟨h1, h2⟩ := h
    have H1 := Lib.hid (by omega : 1 ≤ k)
    have H2 := Lib.hid (by omega : k ≤ 8192)
    have E := Lib.hid (show newE k = 0 from if_neg (by omega))
    have D := Lib.hid (show newD k = ⟨List.replicate (k * 32) 0, [], -1, false⟩ from by unfold newD; rw [if_neg (by omega)]; simp)
    have hk := H2.out
    go_enter Try.func50, Try.ntmps50
    go_wp2_with (first
    | ((with_reducible apply l_alloc (ty := 44) (dst := some 2) hS (.agg #[.slice none 0 0, .slice none 0 0, .int .i64 0, .bool false]) [.slice none 0 0, .slice none 0 0, .int .i64 0, .bool false]); (· kernel_rfl); (· rfl); clear hS; intro w2 b2 hS)
    | ((with_reducible apply l_stores hS); (· (first | exact rowT44)); (· exact rfl); (· exact rfl); (· exact rfl); (· (first | assumption | (simp [Value.oneCell']; done))); (· (repeat constructor)); (· (repeat constructor)); (· (repeat constructor)); clear hS; intro ws hS)
      | ((with_reducible apply l_make el_u8 (k * 32) hS); (· exact rfl); (· exact rfl); (· omega); (· omega); (· omega); (· omega); (· simp only [maxLen]; omega); clear hS; intro w13 b13 hS; simp only [made_u8] at hS))
    refine ret_cell_tmp (n := 4) rfl rfl hS (by (repeat constructor)) (by rfl) dkRow rfl ?_
    rw [D.out]
    exact close_half E.out rfl rfl (inK64 (by omega) (by omega)) (by simp only [List.length_replicate]; exact hS) (fun x hx => by rw [(List.mem_replicate.1 hx).2]; simp [InK, IntKind.min, IntKind.max, IntKind.signed, IntKind.bits]) (Lay.nil_rd _ _) (by simp; omega)
  · have h' : n < 1 ∨ 8192 < n := by omega
    have E := Lib.hid (show newE n = 1 from if_pos h')
    have D := Lib.hid (show newD n = dk0 from if_pos h')
    rcases h' with h1 | h1
    all_goals
      clear h
      go_enter Try.func50, Try.ntmps50
      go_wp2_with (first
    | ((with_reducible apply l_alloc (ty := 44) (dst := some 2) hS (.agg #[.slice none 0 0, .slice none 0 0, .int .i64 0, .bool false]) [.slice none 0 0, .slice none 0 0, .int .i64 0, .bool false]); (· kernel_rfl); (· rfl); clear hS; intro w2 b2 hS)
    | ((with_reducible apply l_stores hS); (· (first | exact rowT44)); (· exact rfl); (· exact rfl); (· exact rfl); (· (first | assumption | (simp [Value.oneCell']; done))); (· (repeat constructor)); (· (repeat constructor)); (· (repeat constructor)); clear hS; intro ws hS))
      refine ret_cell_tmp (n := 4) rfl rfl hS (by (repeat constructor)) (by rfl) dkRow rfl ?_
      exact close_err E.out D.out hS
theorem same_c (m : Mem) (w : World) (hm : m.In w) (va vb : Value) (xs ys : List Int) (ha : bytesL.rd m [va] xs) (hb : bytesL.rd m [vb] ys) :
    Calls Try.prog 32 #[va, vb] w fun e w' => e = .returned (.bool (decide (xs = ys))) ∧ w = w' := by
  obtain ⟨p0, c0, rfl, a1, a2, _, a4⟩ := Lay.list_open ha
  obtain ⟨p1, c1, rfl, b1, b2, b3, b4⟩ := Lay.list_open hb
  exact same_any _ _ _ _ _ _ w (a4.rdInt hm) (b4.rdInt hm) (inK_isB a4.inK) (inK_isB b4.inK)
end Go.Proofs.Ytnmgiiaejpaeeaa
/- Contract over the state of a walk: the reference's Same. -/
namespace Go.Proofs.Ytnmgiiaejpaeeaa
set_option linter.unusedVariables false
set_option linter.unusedSimpArgs false
open Go.RowKit Go.Shelf
theorem ifYes {c A B : Prop} [Decidable c] (h : c) (ha : A) : if c then A else B := by rw [if_pos h]; exact ha
theorem ifNo {c A B : Prop} [Decidable c] (h : ¬ c) (hb : B) : if c then A else B := by rw [if_neg h]; exact hb
deriving instance DecidableEq for Wr
deriving instance DecidableEq for Dk
def sameD (d e : Dk) : Bool := decide (d = e)
theorem sameD_true {d e : Dk} (h1 : d.dry = e.dry) (h2 : d.wet = e.wet) (h3 : d.fuse = e.fuse) (h4 : d.dead = e.dead) : sameD d e = true := by
  cases d; cases e; simp_all [sameD]
theorem sameD_no {d e : Dk} (h : d ≠ e) : sameD d e = false := decide_eq_false h
set_option maxRecDepth 100000 in
set_option maxHeartbeats 4000000 in
theorem rsame_c (m : Mem) (w : World) (hm : m.In w) (cs ds : List Value) (d e : Dk) (h : dkL.rd m cs d) (h' : dkL.rd m ds e) :
    Calls Try.prog 49 #[.agg cs.toArray, .agg ds.toArray] w (Ret w m fun v _ => v = .bool (sameD d e)) := by
  obtain ⟨v0, v1, rfl, h0, h1, _⟩ := dkL_open h
  obtain ⟨v2, v3, rfl, h2, h3, _⟩ := dkL_open h'
  have H0 := Lib.hid h0
  have H2 := Lib.hid h2
  obtain ⟨p0, c0, rfl, _⟩ := Lay.list_open h0
  obtain ⟨p1, c1, rfl, a1, a2, a3, a4⟩ := Lay.list_open h1
  obtain ⟨p2, c2, rfl, _⟩ := Lay.list_open h2
  obtain ⟨p3, c3, rfl, b1, b2, b3, b4⟩ := Lay.list_open h3
  have A4 := Lib.hid a4
  have B4 := Lib.hid b4
  simp only [maxLen] at a2 b2
  have hS := St.start hm
  clear h h' h0 h1 h2 h3 a3 a4 b3 b4
  by_cases q1 : d.dry = e.dry
  case neg =>
    have D := Lib.hid (sameD_no (fun h : d = e => q1 (by rw [h])))
    have Q1 := Lib.hid (decide_eq_false q1)
    clear q1
    go_enter Try.func49, Try.ntmps49
    go_wp2_with (first 
    | ((with_reducible apply l_box (ty := 44) (y := (.tmp 0)) hS); (· (first | (go_simp; done) | (go_simp; with_reducible rfl))); (· exact rfl); clear hS; intro w2 b2 hS)
    | ((with_reducible apply l_box (ty := 44) (y := (.tmp 1)) hS); (· (first | (go_simp; done) | (go_simp; with_reducible rfl))); (· exact rfl); clear hS; intro w3 b3 hS)
    | ((with_reducible apply l_load hS); (· (first | exact Try.underlying3 | exact Try.underlying4 | exact Try.underlying22 | exact Try.underlying42)); (· exact rfl); (· exact rfl); (· (first | (apply Find.box; (· (repeat constructor)); rfl) | exact Find.mem (by assumption) | (apply Find.row; (· (repeat constructor)); assumption))))
    | ((with_reducible apply g_load hS); (· (first | exact Try.underlying3 | exact Try.underlying4 | exact Try.underlying22 | exact Try.underlying42)); (· exact rfl); (· (first | rfl | (go_simp; done))); (· exact rfl); (· (first | (apply Find.box; (· (repeat constructor)); rfl) | exact Find.mem (by assumption) | (apply Find.row; (· (repeat constructor)); assumption))))
      | (go_at_call 32; refine (same_c _ _ hS.inw _ _ _ _ H0.out H2.out).mono ?_; rintro e' w10 ⟨rfl, rfl⟩; rw [Q1.out]))
    go_ret
    exact ⟨_, m, rfl, by rw [D.out] <;> rfl, hS.done⟩
  have Q1 := Lib.hid (decide_eq_true q1)
  have QQ1 := Lib.hid q1
  clear q1
  by_cases q2 : d.wet.length = e.wet.length
  case neg =>
    have D := Lib.hid (sameD_no (fun h : d = e => q2 (by rw [h])))
    have Q2 : ((d.wet.length : Int) != (e.wet.length : Int)) = true := by rw [bne_iff_ne]; omega
    clear q2
    go_enter Try.func49, Try.ntmps49
    go_wp2_with (first 
    | ((with_reducible apply l_box (ty := 44) (y := (.tmp 0)) hS); (· (first | (go_simp; done) | (go_simp; with_reducible rfl))); (· exact rfl); clear hS; intro w2 b2 hS)
    | ((with_reducible apply l_box (ty := 44) (y := (.tmp 1)) hS); (· (first | (go_simp; done) | (go_simp; with_reducible rfl))); (· exact rfl); clear hS; intro w3 b3 hS)
    | ((with_reducible apply l_load hS); (· (first | exact Try.underlying3 | exact Try.underlying4 | exact Try.underlying22 | exact Try.underlying42)); (· exact rfl); (· exact rfl); (· (first | (apply Find.box; (· (repeat constructor)); rfl) | exact Find.mem (by assumption) | (apply Find.row; (· (repeat constructor)); assumption))))
    | ((with_reducible apply g_load hS); (· (first | exact Try.underlying3 | exact Try.underlying4 | exact Try.underlying22 | exact Try.underlying42)); (· exact rfl); (· (first | rfl | (go_simp; done))); (· exact rfl); (· (first | (apply Find.box; (· (repeat constructor)); rfl) | exact Find.mem (by assumption) | (apply Find.row; (· (repeat constructor)); assumption))))
      | (go_at_call 32; refine (same_c _ _ hS.inw _ _ _ _ H0.out H2.out).mono ?_; rintro e' w10 ⟨rfl, rfl⟩; rw [Q1.out]))
    go_ret
    exact ⟨_, m, rfl, by rw [D.out] <;> rfl, hS.done⟩
  by_cases q3 : d.fuse = e.fuse
  case neg =>
    have D := Lib.hid (sameD_no (fun h : d = e => q3 (by rw [h])))
    have Q3 : (d.fuse != e.fuse) = true := by rw [bne_iff_ne]; exact q3
    rw [← q2]
    clear q2 q3
    go_enter Try.func49, Try.ntmps49
    go_wp2_with (first 
    | ((with_reducible apply l_box (ty := 44) (y := (.tmp 0)) hS); (· (first | (go_simp; done) | (go_simp; with_reducible rfl))); (· exact rfl); clear hS; intro w2 b2 hS)
    | ((with_reducible apply l_box (ty := 44) (y := (.tmp 1)) hS); (· (first | (go_simp; done) | (go_simp; with_reducible rfl))); (· exact rfl); clear hS; intro w3 b3 hS)
    | ((with_reducible apply l_load hS); (· (first | exact Try.underlying3 | exact Try.underlying4 | exact Try.underlying22 | exact Try.underlying42)); (· exact rfl); (· exact rfl); (· (first | (apply Find.box; (· (repeat constructor)); rfl) | exact Find.mem (by assumption) | (apply Find.row; (· (repeat constructor)); assumption))))
    | ((with_reducible apply g_load hS); (· (first | exact Try.underlying3 | exact Try.underlying4 | exact Try.underlying22 | exact Try.underlying42)); (· exact rfl); (· (first | rfl | (go_simp; done))); (· exact rfl); (· (first | (apply Find.box; (· (repeat constructor)); rfl) | exact Find.mem (by assumption) | (apply Find.row; (· (repeat constructor)); assumption))))
      | (go_at_call 32; refine (same_c _ _ hS.inw _ _ _ _ H0.out H2.out).mono ?_; rintro e' w10 ⟨rfl, rfl⟩; rw [Q1.out]))
    go_ret
    exact ⟨_, m, rfl, by rw [D.out] <;> rfl, hS.done⟩
  have QQ3 := Lib.hid q3
  by_cases q4 : d.dead = e.dead
  case neg =>
    have D := Lib.hid (sameD_no (fun h : d = e => q4 (by rw [h])))
    have hq : (d.dead = true ∧ e.dead = false) ∨ (d.dead = false ∧ e.dead = true) := by
      cases hd : d.dead <;> cases he : e.dead <;> simp_all
    rw [← q2, ← q3]
    clear q2 q3 q4
    rcases hq with ⟨h1, h2⟩ | ⟨h1, h2⟩
    all_goals
      rw [h1, h2]
      clear h1 h2
      go_enter Try.func49, Try.ntmps49
      go_wp2_with (first 
    | ((with_reducible apply l_box (ty := 44) (y := (.tmp 0)) hS); (· (first | (go_simp; done) | (go_simp; with_reducible rfl))); (· exact rfl); clear hS; intro w2 b2 hS)
    | ((with_reducible apply l_box (ty := 44) (y := (.tmp 1)) hS); (· (first | (go_simp; done) | (go_simp; with_reducible rfl))); (· exact rfl); clear hS; intro w3 b3 hS)
    | ((with_reducible apply l_load hS); (· (first | exact Try.underlying3 | exact Try.underlying4 | exact Try.underlying22 | exact Try.underlying42)); (· exact rfl); (· exact rfl); (· (first | (apply Find.box; (· (repeat constructor)); rfl) | exact Find.mem (by assumption) | (apply Find.row; (· (repeat constructor)); assumption))))
    | ((with_reducible apply g_load hS); (· (first | exact Try.underlying3 | exact Try.underlying4 | exact Try.underlying22 | exact Try.underlying42)); (· exact rfl); (· (first | rfl | (go_simp; done))); (· exact rfl); (· (first | (apply Find.box; (· (repeat constructor)); rfl) | exact Find.mem (by assumption) | (apply Find.row; (· (repeat constructor)); assumption))))
        | (go_at_call 32; refine (same_c _ _ hS.inw _ _ _ _ H0.out H2.out).mono ?_; rintro e' w10 ⟨rfl, rfl⟩; rw [Q1.out]))
      go_ret
      exact ⟨_, m, rfl, by rw [D.out] <;> rfl, hS.done⟩
  have QQ4 := Lib.hid q4
  have QQ2 := Lib.hid q2
  rw [← q2, ← q3, ← q4]
  rw [← q2] at b1
  clear q2 q3 q4
  go_enter Try.func49, Try.ntmps49
  go_wp2_with (first 
    | ((with_reducible apply l_box (ty := 44) (y := (.tmp 0)) hS); (· (first | (go_simp; done) | (go_simp; with_reducible rfl))); (· exact rfl); clear hS; intro w2 b2 hS)
    | ((with_reducible apply l_box (ty := 44) (y := (.tmp 1)) hS); (· (first | (go_simp; done) | (go_simp; with_reducible rfl))); (· exact rfl); clear hS; intro w3 b3 hS)
    | ((with_reducible apply l_load hS); (· (first | exact Try.underlying3 | exact Try.underlying4 | exact Try.underlying22 | exact Try.underlying42)); (· exact rfl); (· exact rfl); (· (first | (apply Find.box; (· (repeat constructor)); rfl) | exact Find.mem (by assumption) | (apply Find.row; (· (repeat constructor)); assumption))))
    | ((with_reducible apply g_load hS); (· (first | exact Try.underlying3 | exact Try.underlying4 | exact Try.underlying22 | exact Try.underlying42)); (· exact rfl); (· (first | rfl | (go_simp; done))); (· exact rfl); (· (first | (apply Find.box; (· (repeat constructor)); rfl) | exact Find.mem (by assumption) | (apply Find.row; (· (repeat constructor)); assumption))))
    | (go_at_call 32; refine (same_c _ _ hS.inw _ _ _ _ H0.out H2.out).mono ?_; rintro e' w10 ⟨rfl, rfl⟩; rw [Q1.out]))
  go_loopw [38] (fun i wr => ∃ k : Nat, k ≤ d.wet.length ∧ i = .int .i64 k ∧ Hid (d.wet.take k = e.wet.take k) ∧ St [] w m wr [.box b3 [.slice p2 e.dry.length c2, .slice p3 d.wet.length c3, .int .i64 d.fuse, .bool d.dead], .box b2 [.slice p0 d.dry.length c0, .slice p1 d.wet.length c1, .int .i64 d.fuse, .bool d.dead]] m) (fun i _ => d.wet.length - (intOf i).toNat)
  case atStart => exact ⟨0, Nat.zero_le _, rfl, by simp [Hid], hS⟩
  case round =>
    clear hS
    obtain ⟨k, hk, rfl, hall, hS⟩ := hrel
    by_cases hlt : k < d.wet.length
    · have hlt' : k < e.wet.length := by rw [← QQ2.out]; exact hlt
      obtain ⟨b, o, cs, rfl, hx, hg⟩ := A4.out.get k hlt
      obtain ⟨v, rfl, _, hv⟩ := wrL_open hx
      have HV := Lib.hid hv
      obtain ⟨q, c, rfl, x1, x2, x3, x4⟩ := Lay.list_open hv
      obtain ⟨bb, oo, cs', rfl, hx', hgg⟩ := B4.out.get k hlt'
      obtain ⟨v', rfl, _, hv'⟩ := wrL_open hx'
      have HV' := Lib.hid hv'
      obtain ⟨q', c', rfl, y1, y2, y3, y4⟩ := Lay.list_open hv'
      have g1 : m ⟨b, o + k * 2, none⟩ = some (.int .i64 d.wet[k].pos) := hg 0 _ rfl
      have g2 : m ⟨b, o + k * 2 + 1, none⟩ = some (.slice q d.wet[k].b.length c) := hg 1 _ rfl
      have g3 : m ⟨bb, oo + k * 2, none⟩ = some (.int .i64 e.wet[k].pos) := hgg 0 _ rfl
      have g4 : m ⟨bb, oo + k * 2 + 1, none⟩ = some (.slice q' e.wet[k].b.length c') := hgg 1 _ rfl
      clear hg hgg hx hx' hv hv' x1 x2 x3 x4 y1 y2 y3 y4
      by_cases r1 : d.wet[k].pos = e.wet[k].pos
      · have R1 : (d.wet[k].pos != e.wet[k].pos) = false := by rw [bne_eq_false_iff_eq]; exact r1
        by_cases r2 : d.wet[k].b = e.wet[k].b
        · have R2 := Lib.hid (decide_eq_true r2)
          have HT : Hid (d.wet.take (k + 1) = e.wet.take (k + 1)) := by
            show _ = _
            rw [List.take_succ_eq_append_getElem hlt, List.take_succ_eq_append_getElem hlt', hall.out]
            congr 2
            cases hx : d.wet[k]; cases hy : e.wet[k]; rw [hx, hy] at r1 r2; simp_all
          clear r1 r2 hall
          go_wp2_with (first 
    | ((with_reducible apply l_box (ty := 44) (y := (.tmp 0)) hS); (· (first | (go_simp; done) | (go_simp; with_reducible rfl))); (· exact rfl); clear hS; intro w2 b2 hS)
    | ((with_reducible apply l_box (ty := 44) (y := (.tmp 1)) hS); (· (first | (go_simp; done) | (go_simp; with_reducible rfl))); (· exact rfl); clear hS; intro w3 b3 hS)
    | ((with_reducible apply l_load hS); (· (first | exact Try.underlying3 | exact Try.underlying4 | exact Try.underlying22 | exact Try.underlying42)); (· exact rfl); (· exact rfl); (· (first | (apply Find.box; (· (repeat constructor)); rfl) | exact Find.mem (by assumption) | (apply Find.row; (· (repeat constructor)); assumption))))
    | ((with_reducible apply g_load hS); (· (first | exact Try.underlying3 | exact Try.underlying4 | exact Try.underlying22 | exact Try.underlying42)); (· exact rfl); (· (first | rfl | (go_simp; done))); (· exact rfl); (· (first | (apply Find.box; (· (repeat constructor)); rfl) | exact Find.mem (by assumption) | (apply Find.row; (· (repeat constructor)); assumption)))))
          replace hS := hS.drew
          refine startL (S := Sx _ [(b2, _), (b3, _)]) (by kernel_rfl) ((hS.sx0.cons hS (by (repeat constructor))).cons hS (by (repeat constructor))) (fun _ _ _ _ => trivial) (fun hHeld => ?_)
          focus (refine takeN 0 (v := ?_) rfl (by kernel_rfl) ?_ ?_; rotate_left; focus (intro w hSw; clear hSw; go_simp; try with_reducible rfl))
          try simp only [Act.put, nz1, nz2, nz3]
          refine takeN 1 rfl (by kernel_rfl) (yield_load rfl Try.underlying42 rfl rfl (by (first | (apply FindX.box; (· (repeat constructor)); rfl) | exact FindX.mem (by assumption)))) ?_
          try simp only [Act.put, nz1, nz2, nz3]
          focus (refine takeN 2 (v := ?_) rfl (by kernel_rfl) ?_ ?_; rotate_left; focus (intro w hSw; clear hSw; go_simp; try with_reducible rfl))
          try simp only [Act.put, nz1, nz2, nz3]
          focus (refine takeN 3 (v := ?_) rfl (by kernel_rfl) ?_ ?_; rotate_left; focus (intro w hSw; clear hSw; go_simp; try with_reducible rfl))
          try simp only [Act.put, nz1, nz2, nz3]
          focus (refine takeN 4 (v := ?_) rfl (by kernel_rfl) ?_ ?_; rotate_left; focus (intro w hSw; clear hSw; go_simp; try with_reducible rfl))
          try simp only [Act.put, nz1, nz2, nz3]
          refine takeN 5 rfl (by kernel_rfl) (yield_load rfl Try.underlying3 rfl rfl (by (first | (apply FindX.box; (· (repeat constructor)); rfl) | exact FindX.mem (by assumption)))) ?_
          try simp only [Act.put, nz1, nz2, nz3]
          focus (refine takeN 6 (v := ?_) rfl (by kernel_rfl) ?_ ?_; rotate_left; focus (intro w hSw; clear hSw; go_simp; try with_reducible rfl))
          try simp only [Act.put, nz1, nz2, nz3]
          refine takeN 7 rfl (by kernel_rfl) (yield_load rfl Try.underlying42 rfl rfl (by (first | (apply FindX.box; (· (repeat constructor)); rfl) | exact FindX.mem (by assumption)))) ?_
          try simp only [Act.put, nz1, nz2, nz3]
          focus (refine takeN 8 (v := ?_) rfl (by kernel_rfl) ?_ ?_; rotate_left; focus (intro w hSw; clear hSw; go_simp; try with_reducible rfl))
          try simp only [Act.put, nz1, nz2, nz3]
          focus (refine takeN 9 (v := ?_) rfl (by kernel_rfl) ?_ ?_; rotate_left; focus (intro w hSw; clear hSw; go_simp; try with_reducible rfl))
          try simp only [Act.put, nz1, nz2, nz3]
          focus (refine takeN 10 (v := ?_) rfl (by kernel_rfl) ?_ ?_; rotate_left; focus (intro w hSw; clear hSw; go_simp; try with_reducible rfl))
          try simp only [Act.put, nz1, nz2, nz3]
          refine takeN 11 rfl (by kernel_rfl) (yield_load rfl Try.underlying3 rfl rfl (by (first | (apply FindX.box; (· (repeat constructor)); rfl) | exact FindX.mem (by assumption)))) ?_
          try simp only [Act.put, nz1, nz2, nz3]
          focus (refine takeN 12 (v := ?_) rfl (by kernel_rfl) ?_ ?_; rotate_left; focus (intro w hSw; clear hSw; go_simp; try with_reducible rfl))
          try simp only [Act.put, nz1, nz2, nz3]
          focus (refine takeN 13 (v := ?_) rfl (by kernel_rfl) ?_ ?_; rotate_left; focus (intro w hSw; clear hSw; go_simp; try with_reducible rfl))
          try simp only [Act.put, nz1, nz2, nz3]
          first | (focus (refine takeG 14 (v := ?_) rfl (by kernel_rfl) ?_ ?_ ?_; rotate_left; (focus (first | rfl | (go_simp <;> fail))); (focus (intro w hSw; clear hSw; go_simp; try with_reducible rfl)))) | (refine skipG 14 rfl (by kernel_rfl) ?_ ?_; (focus (first | rfl | (go_simp <;> fail))))
          try simp only [Act.put, nz1, nz2, nz3]
          first | (focus (refine' takeG 15 rfl (by kernel_rfl) ?_ ?_ ?_; rotate_left; (focus (first | rfl | (go_simp <;> fail))); (focus (intro w hSw; refine' yield_load rfl Try.underlying42 rfl rfl ?_ w hSw; (first | (apply FindX.box; (· (repeat constructor)); rfl) | exact FindX.mem (by assumption)))))) | (refine skipG 15 rfl (by kernel_rfl) ?_ ?_; (focus (first | rfl | (go_simp <;> fail))))
          try simp only [Act.put, nz1, nz2, nz3]
          first | (focus (refine takeG 16 (v := ?_) rfl (by kernel_rfl) ?_ ?_ ?_; rotate_left; (focus (first | rfl | (go_simp <;> fail))); (focus (intro w hSw; clear hSw; go_simp; try with_reducible rfl)))) | (refine skipG 16 rfl (by kernel_rfl) ?_ ?_; (focus (first | rfl | (go_simp <;> fail))))
          try simp only [Act.put, nz1, nz2, nz3]
          first | (focus (refine takeG 17 (v := ?_) rfl (by kernel_rfl) ?_ ?_ ?_; rotate_left; (focus (first | rfl | (go_simp <;> fail))); (focus (intro w hSw; clear hSw; go_simp; try with_reducible rfl)))) | (refine skipG 17 rfl (by kernel_rfl) ?_ ?_; (focus (first | rfl | (go_simp <;> fail))))
          try simp only [Act.put, nz1, nz2, nz3]
          first | (focus (refine takeG 18 (v := ?_) rfl (by kernel_rfl) ?_ ?_ ?_; rotate_left; (focus (first | rfl | (go_simp <;> fail))); (focus (intro w hSw; clear hSw; go_simp; try with_reducible rfl)))) | (refine skipG 18 rfl (by kernel_rfl) ?_ ?_; (focus (first | rfl | (go_simp <;> fail))))
          try simp only [Act.put, nz1, nz2, nz3]
          first | (focus (refine' takeG 19 rfl (by kernel_rfl) ?_ ?_ ?_; rotate_left; (focus (first | rfl | (go_simp <;> fail))); (focus (intro w hSw; refine' yield_load rfl Try.underlying22 rfl rfl ?_ w hSw; (first | (apply FindX.box; (· (repeat constructor)); rfl) | exact FindX.mem (by assumption)))))) | (refine skipG 19 rfl (by kernel_rfl) ?_ ?_; (focus (first | rfl | (go_simp <;> fail))))
          try simp only [Act.put, nz1, nz2, nz3]
          first | (focus (refine takeG 20 (v := ?_) rfl (by kernel_rfl) ?_ ?_ ?_; rotate_left; (focus (first | rfl | (go_simp <;> fail))); (focus (intro w hSw; clear hSw; go_simp; try with_reducible rfl)))) | (refine skipG 20 rfl (by kernel_rfl) ?_ ?_; (focus (first | rfl | (go_simp <;> fail))))
          try simp only [Act.put, nz1, nz2, nz3]
          first | (focus (refine' takeG 21 rfl (by kernel_rfl) ?_ ?_ ?_; rotate_left; (focus (first | rfl | (go_simp <;> fail))); (focus (intro w hSw; refine' yield_load rfl Try.underlying42 rfl rfl ?_ w hSw; (first | (apply FindX.box; (· (repeat constructor)); rfl) | exact FindX.mem (by assumption)))))) | (refine skipG 21 rfl (by kernel_rfl) ?_ ?_; (focus (first | rfl | (go_simp <;> fail))))
          try simp only [Act.put, nz1, nz2, nz3]
          first | (focus (refine takeG 22 (v := ?_) rfl (by kernel_rfl) ?_ ?_ ?_; rotate_left; (focus (first | rfl | (go_simp <;> fail))); (focus (intro w hSw; clear hSw; go_simp; try with_reducible rfl)))) | (refine skipG 22 rfl (by kernel_rfl) ?_ ?_; (focus (first | rfl | (go_simp <;> fail))))
          try simp only [Act.put, nz1, nz2, nz3]
          first | (focus (refine takeG 23 (v := ?_) rfl (by kernel_rfl) ?_ ?_ ?_; rotate_left; (focus (first | rfl | (go_simp <;> fail))); (focus (intro w hSw; clear hSw; go_simp; try with_reducible rfl)))) | (refine skipG 23 rfl (by kernel_rfl) ?_ ?_; (focus (first | rfl | (go_simp <;> fail))))
          try simp only [Act.put, nz1, nz2, nz3]
          first | (focus (refine takeG 24 (v := ?_) rfl (by kernel_rfl) ?_ ?_ ?_; rotate_left; (focus (first | rfl | (go_simp <;> fail))); (focus (intro w hSw; clear hSw; go_simp; try with_reducible rfl)))) | (refine skipG 24 rfl (by kernel_rfl) ?_ ?_; (focus (first | rfl | (go_simp <;> fail))))
          try simp only [Act.put, nz1, nz2, nz3]
          first | (focus (refine' takeG 25 rfl (by kernel_rfl) ?_ ?_ ?_; rotate_left; (focus (first | rfl | (go_simp <;> fail))); (focus (intro w hSw; refine' yield_load rfl Try.underlying22 rfl rfl ?_ w hSw; (first | (apply FindX.box; (· (repeat constructor)); rfl) | exact FindX.mem (by assumption)))))) | (refine skipG 25 rfl (by kernel_rfl) ?_ ?_; (focus (first | rfl | (go_simp <;> fail))))
          try simp only [Act.put, nz1, nz2, nz3]
          refine wpAnyH_ready (rs := [26]) (by kernel_rfl) (by simp) ?_
          refine consL 26 rfl (fun K hK => ?_) AllReadyH.nil
          first | (refine ifYes ?_ ?_; (focus rfl); go_simp; refine (same_c _ _ hS.inw _ _ _ _ HV.out HV'.out).mono ?_; rintro e' w67 ⟨rfl, rfl⟩; rw [R2.out]; go_wp2_with fail) | (refine ifNo ?_ ?_; focus (first | exact Bool.false_ne_true | (go_simp <;> fail)))
          refine hK.out _ _ (by first | exact ((hS.sx0.cons hS (by (repeat constructor))).cons hS (by (repeat constructor))) | exact Sx.le (by assumption) ((hS.sx0.cons hS (by (repeat constructor))).cons hS (by (repeat constructor)))) (fun hHeld => ?_)
          clear hK K
          try simp only [Act.put, nz1, nz2, nz3]
          first | (focus (refine takeG 27 (v := ?_) rfl (by kernel_rfl) ?_ ?_ ?_; rotate_left; (focus (first | rfl | (go_simp <;> fail))); (focus (intro w hSw; clear hSw; go_simp; try with_reducible rfl)))) | (refine skipG 27 rfl (by kernel_rfl) ?_ ?_; (focus (first | rfl | (go_simp <;> fail))))
          try simp only [Act.put, nz1, nz2, nz3]
          focus (refine takeN 28 (v := ?_) rfl (by kernel_rfl) ?_ ?_; rotate_left; focus (intro w hSw; clear hSw; go_simp; try with_reducible rfl))
          try simp only [Act.put, nz1, nz2, nz3]
          refine wpAnyH_done (by kernel_rfl) ?_ _
          refine NoPanic.normal ?_
          go_wp2_with (first 
    | ((with_reducible apply l_box (ty := 44) (y := (.tmp 0)) hS); (· (first | (go_simp; done) | (go_simp; with_reducible rfl))); (· exact rfl); clear hS; intro w2 b2 hS)
    | ((with_reducible apply l_box (ty := 44) (y := (.tmp 1)) hS); (· (first | (go_simp; done) | (go_simp; with_reducible rfl))); (· exact rfl); clear hS; intro w3 b3 hS)
    | ((with_reducible apply l_load hS); (· (first | exact Try.underlying3 | exact Try.underlying4 | exact Try.underlying22 | exact Try.underlying42)); (· exact rfl); (· exact rfl); (· (first | (apply Find.box; (· (repeat constructor)); rfl) | exact Find.mem (by assumption) | (apply Find.row; (· (repeat constructor)); assumption))))
    | ((with_reducible apply g_load hS); (· (first | exact Try.underlying3 | exact Try.underlying4 | exact Try.underlying22 | exact Try.underlying42)); (· exact rfl); (· (first | rfl | (go_simp; done))); (· exact rfl); (· (first | (apply Find.box; (· (repeat constructor)); rfl) | exact Find.mem (by assumption) | (apply Find.row; (· (repeat constructor)); assumption)))))
          go_roundw
          case rel => exact ⟨k + 1, hlt, by go_num, HT, hS⟩
          case measure => simp [intOf]; omega
        · have R2 := Lib.hid (decide_eq_false r2)
          have D := Lib.hid (sameD_no (fun h : d = e => r2 (by subst h; rfl)))
          clear r1 r2 hall
          go_wp2_with (first 
    | ((with_reducible apply l_box (ty := 44) (y := (.tmp 0)) hS); (· (first | (go_simp; done) | (go_simp; with_reducible rfl))); (· exact rfl); clear hS; intro w2 b2 hS)
    | ((with_reducible apply l_box (ty := 44) (y := (.tmp 1)) hS); (· (first | (go_simp; done) | (go_simp; with_reducible rfl))); (· exact rfl); clear hS; intro w3 b3 hS)
    | ((with_reducible apply l_load hS); (· (first | exact Try.underlying3 | exact Try.underlying4 | exact Try.underlying22 | exact Try.underlying42)); (· exact rfl); (· exact rfl); (· (first | (apply Find.box; (· (repeat constructor)); rfl) | exact Find.mem (by assumption) | (apply Find.row; (· (repeat constructor)); assumption))))
    | ((with_reducible apply g_load hS); (· (first | exact Try.underlying3 | exact Try.underlying4 | exact Try.underlying22 | exact Try.underlying42)); (· exact rfl); (· (first | rfl | (go_simp; done))); (· exact rfl); (· (first | (apply Find.box; (· (repeat constructor)); rfl) | exact Find.mem (by assumption) | (apply Find.row; (· (repeat constructor)); assumption)))))
          replace hS := hS.drew
          refine startL (S := Sx _ [(b2, _), (b3, _)]) (by kernel_rfl) ((hS.sx0.cons hS (by (repeat constructor))).cons hS (by (repeat constructor))) (fun _ _ _ _ => trivial) (fun hHeld => ?_)
          focus (refine takeN 0 (v := ?_) rfl (by kernel_rfl) ?_ ?_; rotate_left; focus (intro w hSw; clear hSw; go_simp; try with_reducible rfl))
          try simp only [Act.put, nz1, nz2, nz3]
          refine takeN 1 rfl (by kernel_rfl) (yield_load rfl Try.underlying42 rfl rfl (by (first | (apply FindX.box; (· (repeat constructor)); rfl) | exact FindX.mem (by assumption)))) ?_
          try simp only [Act.put, nz1, nz2, nz3]
          focus (refine takeN 2 (v := ?_) rfl (by kernel_rfl) ?_ ?_; rotate_left; focus (intro w hSw; clear hSw; go_simp; try with_reducible rfl))
          try simp only [Act.put, nz1, nz2, nz3]
          focus (refine takeN 3 (v := ?_) rfl (by kernel_rfl) ?_ ?_; rotate_left; focus (intro w hSw; clear hSw; go_simp; try with_reducible rfl))
          try simp only [Act.put, nz1, nz2, nz3]
          focus (refine takeN 4 (v := ?_) rfl (by kernel_rfl) ?_ ?_; rotate_left; focus (intro w hSw; clear hSw; go_simp; try with_reducible rfl))
          try simp only [Act.put, nz1, nz2, nz3]
          refine takeN 5 rfl (by kernel_rfl) (yield_load rfl Try.underlying3 rfl rfl (by (first | (apply FindX.box; (· (repeat constructor)); rfl) | exact FindX.mem (by assumption)))) ?_
          try simp only [Act.put, nz1, nz2, nz3]
          focus (refine takeN 6 (v := ?_) rfl (by kernel_rfl) ?_ ?_; rotate_left; focus (intro w hSw; clear hSw; go_simp; try with_reducible rfl))
          try simp only [Act.put, nz1, nz2, nz3]
          refine takeN 7 rfl (by kernel_rfl) (yield_load rfl Try.underlying42 rfl rfl (by (first | (apply FindX.box; (· (repeat constructor)); rfl) | exact FindX.mem (by assumption)))) ?_
          try simp only [Act.put, nz1, nz2, nz3]
          focus (refine takeN 8 (v := ?_) rfl (by kernel_rfl) ?_ ?_; rotate_left; focus (intro w hSw; clear hSw; go_simp; try with_reducible rfl))
          try simp only [Act.put, nz1, nz2, nz3]
          focus (refine takeN 9 (v := ?_) rfl (by kernel_rfl) ?_ ?_; rotate_left; focus (intro w hSw; clear hSw; go_simp; try with_reducible rfl))
          try simp only [Act.put, nz1, nz2, nz3]
          focus (refine takeN 10 (v := ?_) rfl (by kernel_rfl) ?_ ?_; rotate_left; focus (intro w hSw; clear hSw; go_simp; try with_reducible rfl))
          try simp only [Act.put, nz1, nz2, nz3]
          refine takeN 11 rfl (by kernel_rfl) (yield_load rfl Try.underlying3 rfl rfl (by (first | (apply FindX.box; (· (repeat constructor)); rfl) | exact FindX.mem (by assumption)))) ?_
          try simp only [Act.put, nz1, nz2, nz3]
          focus (refine takeN 12 (v := ?_) rfl (by kernel_rfl) ?_ ?_; rotate_left; focus (intro w hSw; clear hSw; go_simp; try with_reducible rfl))
          try simp only [Act.put, nz1, nz2, nz3]
          focus (refine takeN 13 (v := ?_) rfl (by kernel_rfl) ?_ ?_; rotate_left; focus (intro w hSw; clear hSw; go_simp; try with_reducible rfl))
          try simp only [Act.put, nz1, nz2, nz3]
          first | (focus (refine takeG 14 (v := ?_) rfl (by kernel_rfl) ?_ ?_ ?_; rotate_left; (focus (first | rfl | (go_simp <;> fail))); (focus (intro w hSw; clear hSw; go_simp; try with_reducible rfl)))) | (refine skipG 14 rfl (by kernel_rfl) ?_ ?_; (focus (first | rfl | (go_simp <;> fail))))
          try simp only [Act.put, nz1, nz2, nz3]
          first | (focus (refine' takeG 15 rfl (by kernel_rfl) ?_ ?_ ?_; rotate_left; (focus (first | rfl | (go_simp <;> fail))); (focus (intro w hSw; refine' yield_load rfl Try.underlying42 rfl rfl ?_ w hSw; (first | (apply FindX.box; (· (repeat constructor)); rfl) | exact FindX.mem (by assumption)))))) | (refine skipG 15 rfl (by kernel_rfl) ?_ ?_; (focus (first | rfl | (go_simp <;> fail))))
          try simp only [Act.put, nz1, nz2, nz3]
          first | (focus (refine takeG 16 (v := ?_) rfl (by kernel_rfl) ?_ ?_ ?_; rotate_left; (focus (first | rfl | (go_simp <;> fail))); (focus (intro w hSw; clear hSw; go_simp; try with_reducible rfl)))) | (refine skipG 16 rfl (by kernel_rfl) ?_ ?_; (focus (first | rfl | (go_simp <;> fail))))
          try simp only [Act.put, nz1, nz2, nz3]
          first | (focus (refine takeG 17 (v := ?_) rfl (by kernel_rfl) ?_ ?_ ?_; rotate_left; (focus (first | rfl | (go_simp <;> fail))); (focus (intro w hSw; clear hSw; go_simp; try with_reducible rfl)))) | (refine skipG 17 rfl (by kernel_rfl) ?_ ?_; (focus (first | rfl | (go_simp <;> fail))))
          try simp only [Act.put, nz1, nz2, nz3]
          first | (focus (refine takeG 18 (v := ?_) rfl (by kernel_rfl) ?_ ?_ ?_; rotate_left; (focus (first | rfl | (go_simp <;> fail))); (focus (intro w hSw; clear hSw; go_simp; try with_reducible rfl)))) | (refine skipG 18 rfl (by kernel_rfl) ?_ ?_; (focus (first | rfl | (go_simp <;> fail))))
          try simp only [Act.put, nz1, nz2, nz3]
          first | (focus (refine' takeG 19 rfl (by kernel_rfl) ?_ ?_ ?_; rotate_left; (focus (first | rfl | (go_simp <;> fail))); (focus (intro w hSw; refine' yield_load rfl Try.underlying22 rfl rfl ?_ w hSw; (first | (apply FindX.box; (· (repeat constructor)); rfl) | exact FindX.mem (by assumption)))))) | (refine skipG 19 rfl (by kernel_rfl) ?_ ?_; (focus (first | rfl | (go_simp <;> fail))))
          try simp only [Act.put, nz1, nz2, nz3]
          first | (focus (refine takeG 20 (v := ?_) rfl (by kernel_rfl) ?_ ?_ ?_; rotate_left; (focus (first | rfl | (go_simp <;> fail))); (focus (intro w hSw; clear hSw; go_simp; try with_reducible rfl)))) | (refine skipG 20 rfl (by kernel_rfl) ?_ ?_; (focus (first | rfl | (go_simp <;> fail))))
          try simp only [Act.put, nz1, nz2, nz3]
          first | (focus (refine' takeG 21 rfl (by kernel_rfl) ?_ ?_ ?_; rotate_left; (focus (first | rfl | (go_simp <;> fail))); (focus (intro w hSw; refine' yield_load rfl Try.underlying42 rfl rfl ?_ w hSw; (first | (apply FindX.box; (· (repeat constructor)); rfl) | exact FindX.mem (by assumption)))))) | (refine skipG 21 rfl (by kernel_rfl) ?_ ?_; (focus (first | rfl | (go_simp <;> fail))))
          try simp only [Act.put, nz1, nz2, nz3]
          first | (focus (refine takeG 22 (v := ?_) rfl (by kernel_rfl) ?_ ?_ ?_; rotate_left; (focus (first | rfl | (go_simp <;> fail))); (focus (intro w hSw; clear hSw; go_simp; try with_reducible rfl)))) | (refine skipG 22 rfl (by kernel_rfl) ?_ ?_; (focus (first | rfl | (go_simp <;> fail))))
          try simp only [Act.put, nz1, nz2, nz3]
          first | (focus (refine takeG 23 (v := ?_) rfl (by kernel_rfl) ?_ ?_ ?_; rotate_left; (focus (first | rfl | (go_simp <;> fail))); (focus (intro w hSw; clear hSw; go_simp; try with_reducible rfl)))) | (refine skipG 23 rfl (by kernel_rfl) ?_ ?_; (focus (first | rfl | (go_simp <;> fail))))
          try simp only [Act.put, nz1, nz2, nz3]
          first | (focus (refine takeG 24 (v := ?_) rfl (by kernel_rfl) ?_ ?_ ?_; rotate_left; (focus (first | rfl | (go_simp <;> fail))); (focus (intro w hSw; clear hSw; go_simp; try with_reducible rfl)))) | (refine skipG 24 rfl (by kernel_rfl) ?_ ?_; (focus (first | rfl | (go_simp <;> fail))))
          try simp only [Act.put, nz1, nz2, nz3]
          first | (focus (refine' takeG 25 rfl (by kernel_rfl) ?_ ?_ ?_; rotate_left; (focus (first | rfl | (go_simp <;> fail))); (focus (intro w hSw; refine' yield_load rfl Try.underlying22 rfl rfl ?_ w hSw; (first | (apply FindX.box; (· (repeat constructor)); rfl) | exact FindX.mem (by assumption)))))) | (refine skipG 25 rfl (by kernel_rfl) ?_ ?_; (focus (first | rfl | (go_simp <;> fail))))
          try simp only [Act.put, nz1, nz2, nz3]
          refine wpAnyH_ready (rs := [26]) (by kernel_rfl) (by simp) ?_
          refine consL 26 rfl (fun K hK => ?_) AllReadyH.nil
          first | (refine ifYes ?_ ?_; (focus rfl); go_simp; refine (same_c _ _ hS.inw _ _ _ _ HV.out HV'.out).mono ?_; rintro e' w67 ⟨rfl, rfl⟩; rw [R2.out]; go_wp2_with fail) | (refine ifNo ?_ ?_; focus (first | exact Bool.false_ne_true | (go_simp <;> fail)))
          refine hK.out _ _ (by first | exact ((hS.sx0.cons hS (by (repeat constructor))).cons hS (by (repeat constructor))) | exact Sx.le (by assumption) ((hS.sx0.cons hS (by (repeat constructor))).cons hS (by (repeat constructor)))) (fun hHeld => ?_)
          clear hK K
          try simp only [Act.put, nz1, nz2, nz3]
          first | (focus (refine takeG 27 (v := ?_) rfl (by kernel_rfl) ?_ ?_ ?_; rotate_left; (focus (first | rfl | (go_simp <;> fail))); (focus (intro w hSw; clear hSw; go_simp; try with_reducible rfl)))) | (refine skipG 27 rfl (by kernel_rfl) ?_ ?_; (focus (first | rfl | (go_simp <;> fail))))
          try simp only [Act.put, nz1, nz2, nz3]
          focus (refine takeN 28 (v := ?_) rfl (by kernel_rfl) ?_ ?_; rotate_left; focus (intro w hSw; clear hSw; go_simp; try with_reducible rfl))
          try simp only [Act.put, nz1, nz2, nz3]
          refine wpAnyH_done (by kernel_rfl) ?_ _
          refine NoPanic.normal ?_
          go_wp2_with (first 
    | ((with_reducible apply l_box (ty := 44) (y := (.tmp 0)) hS); (· (first | (go_simp; done) | (go_simp; with_reducible rfl))); (· exact rfl); clear hS; intro w2 b2 hS)
    | ((with_reducible apply l_box (ty := 44) (y := (.tmp 1)) hS); (· (first | (go_simp; done) | (go_simp; with_reducible rfl))); (· exact rfl); clear hS; intro w3 b3 hS)
    | ((with_reducible apply l_load hS); (· (first | exact Try.underlying3 | exact Try.underlying4 | exact Try.underlying22 | exact Try.underlying42)); (· exact rfl); (· exact rfl); (· (first | (apply Find.box; (· (repeat constructor)); rfl) | exact Find.mem (by assumption) | (apply Find.row; (· (repeat constructor)); assumption))))
    | ((with_reducible apply g_load hS); (· (first | exact Try.underlying3 | exact Try.underlying4 | exact Try.underlying22 | exact Try.underlying42)); (· exact rfl); (· (first | rfl | (go_simp; done))); (· exact rfl); (· (first | (apply Find.box; (· (repeat constructor)); rfl) | exact Find.mem (by assumption) | (apply Find.row; (· (repeat constructor)); assumption)))))
          go_ret
          exact ⟨_, m, rfl, by rw [D.out] <;> rfl, hS.done⟩
      · have R1 : (d.wet[k].pos != e.wet[k].pos) = true := by rw [bne_iff_ne]; exact r1
        have D := Lib.hid (sameD_no (fun h : d = e => r1 (by subst h; rfl)))
        clear r1 hall
        go_wp2_with (first 
    | ((with_reducible apply l_box (ty := 44) (y := (.tmp 0)) hS); (· (first | (go_simp; done) | (go_simp; with_reducible rfl))); (· exact rfl); clear hS; intro w2 b2 hS)
    | ((with_reducible apply l_box (ty := 44) (y := (.tmp 1)) hS); (· (first | (go_simp; done) | (go_simp; with_reducible rfl))); (· exact rfl); clear hS; intro w3 b3 hS)
    | ((with_reducible apply l_load hS); (· (first | exact Try.underlying3 | exact Try.underlying4 | exact Try.underlying22 | exact Try.underlying42)); (· exact rfl); (· exact rfl); (· (first | (apply Find.box; (· (repeat constructor)); rfl) | exact Find.mem (by assumption) | (apply Find.row; (· (repeat constructor)); assumption))))
    | ((with_reducible apply g_load hS); (· (first | exact Try.underlying3 | exact Try.underlying4 | exact Try.underlying22 | exact Try.underlying42)); (· exact rfl); (· (first | rfl | (go_simp; done))); (· exact rfl); (· (first | (apply Find.box; (· (repeat constructor)); rfl) | exact Find.mem (by assumption) | (apply Find.row; (· (repeat constructor)); assumption)))))
        replace hS := hS.drew
        refine startL (S := Sx _ [(b2, _), (b3, _)]) (by kernel_rfl) ((hS.sx0.cons hS (by (repeat constructor))).cons hS (by (repeat constructor))) (fun _ _ _ _ => trivial) (fun hHeld => ?_)
        focus (refine takeN 0 (v := ?_) rfl (by kernel_rfl) ?_ ?_; rotate_left; focus (intro w hSw; clear hSw; go_simp; try with_reducible rfl))
        try simp only [Act.put, nz1, nz2, nz3]
        refine takeN 1 rfl (by kernel_rfl) (yield_load rfl Try.underlying42 rfl rfl (by (first | (apply FindX.box; (· (repeat constructor)); rfl) | exact FindX.mem (by assumption)))) ?_
        try simp only [Act.put, nz1, nz2, nz3]
        focus (refine takeN 2 (v := ?_) rfl (by kernel_rfl) ?_ ?_; rotate_left; focus (intro w hSw; clear hSw; go_simp; try with_reducible rfl))
        try simp only [Act.put, nz1, nz2, nz3]
        focus (refine takeN 3 (v := ?_) rfl (by kernel_rfl) ?_ ?_; rotate_left; focus (intro w hSw; clear hSw; go_simp; try with_reducible rfl))
        try simp only [Act.put, nz1, nz2, nz3]
        focus (refine takeN 4 (v := ?_) rfl (by kernel_rfl) ?_ ?_; rotate_left; focus (intro w hSw; clear hSw; go_simp; try with_reducible rfl))
        try simp only [Act.put, nz1, nz2, nz3]
        refine takeN 5 rfl (by kernel_rfl) (yield_load rfl Try.underlying3 rfl rfl (by (first | (apply FindX.box; (· (repeat constructor)); rfl) | exact FindX.mem (by assumption)))) ?_
        try simp only [Act.put, nz1, nz2, nz3]
        focus (refine takeN 6 (v := ?_) rfl (by kernel_rfl) ?_ ?_; rotate_left; focus (intro w hSw; clear hSw; go_simp; try with_reducible rfl))
        try simp only [Act.put, nz1, nz2, nz3]
        refine takeN 7 rfl (by kernel_rfl) (yield_load rfl Try.underlying42 rfl rfl (by (first | (apply FindX.box; (· (repeat constructor)); rfl) | exact FindX.mem (by assumption)))) ?_
        try simp only [Act.put, nz1, nz2, nz3]
        focus (refine takeN 8 (v := ?_) rfl (by kernel_rfl) ?_ ?_; rotate_left; focus (intro w hSw; clear hSw; go_simp; try with_reducible rfl))
        try simp only [Act.put, nz1, nz2, nz3]
        focus (refine takeN 9 (v := ?_) rfl (by kernel_rfl) ?_ ?_; rotate_left; focus (intro w hSw; clear hSw; go_simp; try with_reducible rfl))
        try simp only [Act.put, nz1, nz2, nz3]
        focus (refine takeN 10 (v := ?_) rfl (by kernel_rfl) ?_ ?_; rotate_left; focus (intro w hSw; clear hSw; go_simp; try with_reducible rfl))
        try simp only [Act.put, nz1, nz2, nz3]
        refine takeN 11 rfl (by kernel_rfl) (yield_load rfl Try.underlying3 rfl rfl (by (first | (apply FindX.box; (· (repeat constructor)); rfl) | exact FindX.mem (by assumption)))) ?_
        try simp only [Act.put, nz1, nz2, nz3]
        focus (refine takeN 12 (v := ?_) rfl (by kernel_rfl) ?_ ?_; rotate_left; focus (intro w hSw; clear hSw; go_simp; try with_reducible rfl))
        try simp only [Act.put, nz1, nz2, nz3]
        focus (refine takeN 13 (v := ?_) rfl (by kernel_rfl) ?_ ?_; rotate_left; focus (intro w hSw; clear hSw; go_simp; try with_reducible rfl))
        try simp only [Act.put, nz1, nz2, nz3]
        first | (focus (refine takeG 14 (v := ?_) rfl (by kernel_rfl) ?_ ?_ ?_; rotate_left; (focus (first | rfl | (go_simp <;> fail))); (focus (intro w hSw; clear hSw; go_simp; try with_reducible rfl)))) | (refine skipG 14 rfl (by kernel_rfl) ?_ ?_; (focus (first | rfl | (go_simp <;> fail))))
        try simp only [Act.put, nz1, nz2, nz3]
        first | (focus (refine' takeG 15 rfl (by kernel_rfl) ?_ ?_ ?_; rotate_left; (focus (first | rfl | (go_simp <;> fail))); (focus (intro w hSw; refine' yield_load rfl Try.underlying42 rfl rfl ?_ w hSw; (first | (apply FindX.box; (· (repeat constructor)); rfl) | exact FindX.mem (by assumption)))))) | (refine skipG 15 rfl (by kernel_rfl) ?_ ?_; (focus (first | rfl | (go_simp <;> fail))))
        try simp only [Act.put, nz1, nz2, nz3]
        first | (focus (refine takeG 16 (v := ?_) rfl (by kernel_rfl) ?_ ?_ ?_; rotate_left; (focus (first | rfl | (go_simp <;> fail))); (focus (intro w hSw; clear hSw; go_simp; try with_reducible rfl)))) | (refine skipG 16 rfl (by kernel_rfl) ?_ ?_; (focus (first | rfl | (go_simp <;> fail))))
        try simp only [Act.put, nz1, nz2, nz3]
        first | (focus (refine takeG 17 (v := ?_) rfl (by kernel_rfl) ?_ ?_ ?_; rotate_left; (focus (first | rfl | (go_simp <;> fail))); (focus (intro w hSw; clear hSw; go_simp; try with_reducible rfl)))) | (refine skipG 17 rfl (by kernel_rfl) ?_ ?_; (focus (first | rfl | (go_simp <;> fail))))
        try simp only [Act.put, nz1, nz2, nz3]
        first | (focus (refine takeG 18 (v := ?_) rfl (by kernel_rfl) ?_ ?_ ?_; rotate_left; (focus (first | rfl | (go_simp <;> fail))); (focus (intro w hSw; clear hSw; go_simp; try with_reducible rfl)))) | (refine skipG 18 rfl (by kernel_rfl) ?_ ?_; (focus (first | rfl | (go_simp <;> fail))))
        try simp only [Act.put, nz1, nz2, nz3]
        first | (focus (refine' takeG 19 rfl (by kernel_rfl) ?_ ?_ ?_; rotate_left; (focus (first | rfl | (go_simp <;> fail))); (focus (intro w hSw; refine' yield_load rfl Try.underlying22 rfl rfl ?_ w hSw; (first | (apply FindX.box; (· (repeat constructor)); rfl) | exact FindX.mem (by assumption)))))) | (refine skipG 19 rfl (by kernel_rfl) ?_ ?_; (focus (first | rfl | (go_simp <;> fail))))
        try simp only [Act.put, nz1, nz2, nz3]
        first | (focus (refine takeG 20 (v := ?_) rfl (by kernel_rfl) ?_ ?_ ?_; rotate_left; (focus (first | rfl | (go_simp <;> fail))); (focus (intro w hSw; clear hSw; go_simp; try with_reducible rfl)))) | (refine skipG 20 rfl (by kernel_rfl) ?_ ?_; (focus (first | rfl | (go_simp <;> fail))))
        try simp only [Act.put, nz1, nz2, nz3]
        first | (focus (refine' takeG 21 rfl (by kernel_rfl) ?_ ?_ ?_; rotate_left; (focus (first | rfl | (go_simp <;> fail))); (focus (intro w hSw; refine' yield_load rfl Try.underlying42 rfl rfl ?_ w hSw; (first | (apply FindX.box; (· (repeat constructor)); rfl) | exact FindX.mem (by assumption)))))) | (refine skipG 21 rfl (by kernel_rfl) ?_ ?_; (focus (first | rfl | (go_simp <;> fail))))
        try simp only [Act.put, nz1, nz2, nz3]
        first | (focus (refine takeG 22 (v := ?_) rfl (by kernel_rfl) ?_ ?_ ?_; rotate_left; (focus (first | rfl | (go_simp <;> fail))); (focus (intro w hSw; clear hSw; go_simp; try with_reducible rfl)))) | (refine skipG 22 rfl (by kernel_rfl) ?_ ?_; (focus (first | rfl | (go_simp <;> fail))))
        try simp only [Act.put, nz1, nz2, nz3]
        first | (focus (refine takeG 23 (v := ?_) rfl (by kernel_rfl) ?_ ?_ ?_; rotate_left; (focus (first | rfl | (go_simp <;> fail))); (focus (intro w hSw; clear hSw; go_simp; try with_reducible rfl)))) | (refine skipG 23 rfl (by kernel_rfl) ?_ ?_; (focus (first | rfl | (go_simp <;> fail))))
        try simp only [Act.put, nz1, nz2, nz3]
        first | (focus (refine takeG 24 (v := ?_) rfl (by kernel_rfl) ?_ ?_ ?_; rotate_left; (focus (first | rfl | (go_simp <;> fail))); (focus (intro w hSw; clear hSw; go_simp; try with_reducible rfl)))) | (refine skipG 24 rfl (by kernel_rfl) ?_ ?_; (focus (first | rfl | (go_simp <;> fail))))
        try simp only [Act.put, nz1, nz2, nz3]
        first | (focus (refine' takeG 25 rfl (by kernel_rfl) ?_ ?_ ?_; rotate_left; (focus (first | rfl | (go_simp <;> fail))); (focus (intro w hSw; refine' yield_load rfl Try.underlying22 rfl rfl ?_ w hSw; (first | (apply FindX.box; (· (repeat constructor)); rfl) | exact FindX.mem (by assumption)))))) | (refine skipG 25 rfl (by kernel_rfl) ?_ ?_; (focus (first | rfl | (go_simp <;> fail))))
        try simp only [Act.put, nz1, nz2, nz3]
        refine wpAnyH_ready (rs := [26]) (by kernel_rfl) (by simp) ?_
        refine consL 26 rfl (fun K hK => ?_) AllReadyH.nil
        first | (refine ifYes ?_ ?_; (focus rfl); go_simp; refine (same_c _ _ hS.inw _ _ _ _ HV.out HV'.out).mono ?_; rintro e' w67 ⟨rfl, rfl⟩; go_wp2_with fail) | (refine ifNo ?_ ?_; focus (first | exact Bool.false_ne_true | (go_simp <;> fail)))
        refine hK.out _ _ (by first | exact ((hS.sx0.cons hS (by (repeat constructor))).cons hS (by (repeat constructor))) | exact Sx.le (by assumption) ((hS.sx0.cons hS (by (repeat constructor))).cons hS (by (repeat constructor)))) (fun hHeld => ?_)
        clear hK K
        try simp only [Act.put, nz1, nz2, nz3]
        first | (focus (refine takeG 27 (v := ?_) rfl (by kernel_rfl) ?_ ?_ ?_; rotate_left; (focus (first | rfl | (go_simp <;> fail))); (focus (intro w hSw; clear hSw; go_simp; try with_reducible rfl)))) | (refine skipG 27 rfl (by kernel_rfl) ?_ ?_; (focus (first | rfl | (go_simp <;> fail))))
        try simp only [Act.put, nz1, nz2, nz3]
        focus (refine takeN 28 (v := ?_) rfl (by kernel_rfl) ?_ ?_; rotate_left; focus (intro w hSw; clear hSw; go_simp; try with_reducible rfl))
        try simp only [Act.put, nz1, nz2, nz3]
        refine wpAnyH_done (by kernel_rfl) ?_ _
        refine NoPanic.normal ?_
        go_wp2_with (first 
    | ((with_reducible apply l_box (ty := 44) (y := (.tmp 0)) hS); (· (first | (go_simp; done) | (go_simp; with_reducible rfl))); (· exact rfl); clear hS; intro w2 b2 hS)
    | ((with_reducible apply l_box (ty := 44) (y := (.tmp 1)) hS); (· (first | (go_simp; done) | (go_simp; with_reducible rfl))); (· exact rfl); clear hS; intro w3 b3 hS)
    | ((with_reducible apply l_load hS); (· (first | exact Try.underlying3 | exact Try.underlying4 | exact Try.underlying22 | exact Try.underlying42)); (· exact rfl); (· exact rfl); (· (first | (apply Find.box; (· (repeat constructor)); rfl) | exact Find.mem (by assumption) | (apply Find.row; (· (repeat constructor)); assumption))))
    | ((with_reducible apply g_load hS); (· (first | exact Try.underlying3 | exact Try.underlying4 | exact Try.underlying22 | exact Try.underlying42)); (· exact rfl); (· (first | rfl | (go_simp; done))); (· exact rfl); (· (first | (apply Find.box; (· (repeat constructor)); rfl) | exact Find.mem (by assumption) | (apply Find.row; (· (repeat constructor)); assumption)))))
        go_ret
        exact ⟨_, m, rfl, by rw [D.out] <;> rfl, hS.done⟩
    · obtain rfl : k = d.wet.length := by omega
      go_wp2_with (first 
    | ((with_reducible apply l_box (ty := 44) (y := (.tmp 0)) hS); (· (first | (go_simp; done) | (go_simp; with_reducible rfl))); (· exact rfl); clear hS; intro w2 b2 hS)
    | ((with_reducible apply l_box (ty := 44) (y := (.tmp 1)) hS); (· (first | (go_simp; done) | (go_simp; with_reducible rfl))); (· exact rfl); clear hS; intro w3 b3 hS)
    | ((with_reducible apply l_load hS); (· (first | exact Try.underlying3 | exact Try.underlying4 | exact Try.underlying22 | exact Try.underlying42)); (· exact rfl); (· exact rfl); (· (first | (apply Find.box; (· (repeat constructor)); rfl) | exact Find.mem (by assumption) | (apply Find.row; (· (repeat constructor)); assumption))))
    | ((with_reducible apply g_load hS); (· (first | exact Try.underlying3 | exact Try.underlying4 | exact Try.underlying22 | exact Try.underlying42)); (· exact rfl); (· (first | rfl | (go_simp; done))); (· exact rfl); (· (first | (apply Find.box; (· (repeat constructor)); rfl) | exact Find.mem (by assumption) | (apply Find.row; (· (repeat constructor)); assumption)))))
      go_ret
      have := hall.out
      rw [List.take_length, List.take_of_length_le (by rw [QQ2.out]; exact Nat.le_refl _)] at this
      exact ⟨_, m, rfl, by rw [sameD_true QQ1.out this QQ3.out QQ4.out] <;> rfl, hS.done⟩
end Go.Proofs.Ytnmgiiaejpaeeaa
/- Contract over the state of a walk: the law's live. -/
namespace Go.Proofs.Ytnmgiiaejpaeeaa
set_option linter.unusedVariables false
set_option linter.unusedSimpArgs false
open Go.RowKit Go.Shelf
section
variable {P : Program} {X : List Nat} {w0 w : World} {m0 m : Mem} {es : List Ent}
theorem s_loads {ops : Array Oper} {a : Act} {K : Act → World → Prop} {Q : Exit → Act → World → Prop} {dst : Option Tmp} {rt : TypeId} {pos : String} {af : Array Edge} {E : Prop} {ty : TypeId} {x : Operand} (hS : St X w0 m0 w es m) {n : Nat} (hn : ∃ d, P.underlying ty = some d ∧ d.isRow = true ∧ (P.info? ty).map (·.size) = some n) {b off : Nat} (hx : a.eval x = .pointer (some ⟨b, off, none⟩)) {vs : List Value} (hv : Finds es m b off n vs)
    (h : K (a.put dst (.agg vs.toArray)) w) : if Region.wanted ⟨dst, .load ty x, rt, pos, af, none⟩ (yielded ops a.tmps) = true then Oper.wp P ⟨dst, .load ty x, rt, pos, af, none⟩ a w K Q else E := by
  obtain ⟨d, hu, hd, hn⟩ := hn
  exact step_of rfl (a_loads hS ty x rfl hu hd n hn hx hv h)
end
theorem Sx.le {m m' : Mem} {bs : List (Nat × List Value)} {w : World} (h : m.Le m') (k : Sx m' bs w) : Sx m bs w := ⟨fun a v hv => k.1 a v (h a v hv), k.2⟩
theorem one_u8 {m : Mem} {b : Nat} {c : Int} (h : ∀ j v, [Value.int .u8 c][j]? = some v → m ⟨b, j, none⟩ = some v) (hc : InK .u8 c) : bytesL.rd m [.slice (some ⟨b, 0, none⟩) 1 1] [c] := by
  refine ⟨_, 1, rfl, Nat.le_refl _, by simp [maxLen], by simp [Lay.int, kBytes], fun _ => ⟨b, 0, rfl, fun i x hx => ?_⟩⟩
  cases i with
  | zero =>
    cases hx
    refine ⟨[.int .u8 c], ⟨rfl, hc⟩, fun j v hj => ?_⟩
    rw [show (0 : Nat) + 0 * (Lay.int .u8).n + j = j by simp]
    exact h j v hj
  | succ i => cases hx
theorem inK_one : InK .u8 1 := by simp [InK, IntKind.min, IntKind.max, IntKind.signed, IntKind.bits]
def lv1 : Dk := writeD (newD 2) 1 (List.replicate 32 7)
def lv2 : Dk := flushD lv1
def lv3 : Dk := writeD lv2 1 (List.replicate 32 9)
def lv4 : Dk := crashD lv3 [1]
theorem lv_e1 : newE 2 = 0 := by decide +kernel
theorem lv_e2 : writeE (newD 2) 1 (List.replicate 32 7) = 0 := by decide +kernel
theorem lv_e3 : flushE lv1 = 0 := by decide +kernel
theorem lv_e4 : writeE lv2 1 (List.replicate 32 9) = 0 := by decide +kernel
theorem lv_e5 : checkE lv3 = 0 := by decide +kernel
theorem lv_e6 : readE lv4 1 = 0 := by decide +kernel
theorem lv_b : readB lv4 1 = 9 :: 7 :: List.replicate 30 7 := by decide +kernel
set_option maxRecDepth 100000 in
set_option maxHeartbeats 4000000 in
theorem live_c (m : Mem) (w : World) (hm : m.In w) :
    Calls Try.prog 33 #[] w (Ret w m fun v _ => v = .bool true) := by
  have hS := St.start hm
  have i2 : InK .i64 2 := inK64 (by decide) (by decide)
  have h7 : InK .u8 7 := by simp [InK, IntKind.min, IntKind.max, IntKind.signed, IntKind.bits]
  have h9 : InK .u8 9 := by simp [InK, IntKind.min, IntKind.max, IntKind.signed, IntKind.bits]
  have I1 := Lib.hid (inK64 (x := 1) (by decide) (by decide))
  have I7 := Lib.hid h7
  have I9 := Lib.hid h9
  clear i2 h7 h9
  go_enter Try.func33, Try.ntmps33
  go_wp2_with (first 
    | ((with_reducible apply l_alloc (ty := 44) (dst := some 1) hS (.agg #[.slice none 0 0, .slice none 0 0, .int .i64 0, .bool false]) [.slice none 0 0, .slice none 0 0, .int .i64 0, .bool false]); (· kernel_rfl); (· rfl); clear hS; intro w1 b1 hS)
    | ((with_reducible apply l_load hS); (· (first | exact Try.underlying5)); (· exact rfl); (· exact rfl); (· (first | (apply Find.box; (· (repeat constructor)); rfl) | exact Find.mem (by assumption) | (apply Find.row; (· (repeat constructor)); assumption))))
    | ((with_reducible apply g_load hS); (· (first | exact Try.underlying5)); (· exact rfl); (· (first | rfl | (go_simp; done))); (· exact rfl); (· (first | (apply Find.box; (· (repeat constructor)); rfl) | exact Find.mem (by assumption) | (apply Find.row; (· (repeat constructor)); assumption))))
    | ((with_reducible apply l_loads hS); (· (first | exact rowT44)); (· exact rfl); (· (first | (apply Finds.box; (· (repeat constructor)); (· (repeat constructor)); done) | (refine Finds.mem2 (by assumption) ?_; first | rfl | assumption | (simp; done)) | (apply Finds.row; (· (repeat constructor)); (· assumption); (· rfl)))))
    | ((with_reducible apply g_loads hS); (· (first | exact rowT44)); (· (first | rfl | (go_simp; done))); (· exact rfl); (· (first | (apply Finds.box; (· (repeat constructor)); (· (repeat constructor)); done) | (refine Finds.mem2 (by assumption) ?_; first | rfl | assumption | (simp; done)) | (apply Finds.row; (· (repeat constructor)); (· assumption); (· rfl)))))
    | ((with_reducible apply l_stores hS); (· (first | exact rowT44)); (· exact rfl); (· exact rfl); (· exact rfl); (· (first | assumption | (simp [Value.oneCell']; done))); (· (repeat constructor)); (· (repeat constructor)); (· (repeat constructor)); clear hS; intro ws hS)
    | (go_at_call 34; refine (new_c _ _ hS.inw 2).mono ?_; rintro e' w10 ⟨v10, m1, rfl, ⟨cs1, rfl, hr1⟩, hk⟩; replace hS := hS.call hk; clear hk; have R1 := Lib.hid hr1; have hone := dkL.one hr1; obtain ⟨x0, x1, rfl, _⟩ := dkL_open hr1; rw [lv_e1]; clear hr1))
  replace hS := hS.drew
  refine startL (S := Sx _ []) (by kernel_rfl) hS.sx0 (fun _ _ _ _ => trivial) (fun hHeld => ?_)
  refine wpAnyH_ready (rs := [0, 1]) (by kernel_rfl) (by simp) ?_
  refine consL 0 rfl (fun K hK => ?_) (consL 1 rfl (fun K hK => ?_) AllReadyH.nil)
  rotate_right
  focus
    rw [if_pos (by rfl)]; go_simp; refine (sector_c _ _ hS.inw 7 I7.out).mono ?_; rintro e' w15 ⟨v15, m2, rfl, hr2, hk⟩; replace hS := hS.call hk; have hle := hk.le; clear hk; have R2 := Lib.hid hr2; clear hr2; go_wp2_with fail
    refine hK.out _ _ (by first | exact hS.sx0 | exact Sx.le (by assumption) hS.sx0) (fun hHeld => ?_)
    clear hK K
    try simp only [Act.put, nz1, nz2, nz3]
    refine wpAnyH_ready (rs := [0]) (by kernel_rfl) (by simp) ?_
    refine consL 0 rfl (fun K hK => ?_) AllReadyH.nil
    (with_reducible apply s_loads hS); (· exact rowT44); (· exact rfl); (· (first | (apply Finds.box; (· (repeat constructor)); (· (repeat constructor)); done) | (refine Finds.mem2 (by assumption) ?_; first | rfl | assumption | (simp; done)) | (apply Finds.row; (· (repeat constructor)); (· assumption); (· rfl))))
    refine hK.out _ _ (by first | exact hS.sx0 | exact Sx.le (by assumption) hS.sx0) (fun hHeld => ?_)
    clear hK K
    try simp only [Act.put, nz1, nz2, nz3]
    refine wpAnyH_ready (rs := [2]) (by kernel_rfl) (by simp) ?_
    refine consL 2 rfl (fun K hK => ?_) AllReadyH.nil
    rw [if_pos (by rfl)]; go_simp; refine (write_c _ _ hS.inw _ _ (dkL.mono hle R1.out) 1 I1.out _ _ R2.out).mono ?_; rintro e' w16 ⟨v16, m3, rfl, ⟨cs3, rfl, hr3⟩, hk⟩; replace hS := hS.call hk; have hle3 := hle.trans hk.le; clear hk hle; have R3 : Hid (dkL.rd m3 cs3 lv1) := hr3; rw [lv_e2]; obtain ⟨x2, x3, rfl, _⟩ := dkL_open R3.out; have hone3 := dkL.one R3.out; clear hr3; go_wp2_with fail
    refine hK.out _ _ (by first | exact hS.sx0 | exact Sx.le (by assumption) hS.sx0) (fun hHeld => ?_)
    clear hK K
    try simp only [Act.put, nz1, nz2, nz3]
    focus (refine takeN 3 (v := ?_) rfl (by kernel_rfl) ?_ ?_; rotate_left; focus (intro w hSw; clear hSw; go_simp; try with_reducible rfl))
    try simp only [Act.put, nz1, nz2, nz3]
    focus (refine takeN 4 (v := ?_) rfl (by kernel_rfl) ?_ ?_; rotate_left; focus (intro w hSw; clear hSw; go_simp; try with_reducible rfl))
    try simp only [Act.put, nz1, nz2, nz3]
    focus (refine takeN 5 (v := ?_) rfl (by kernel_rfl) ?_ ?_; rotate_left; focus (intro w hSw; clear hSw; go_simp; try with_reducible rfl))
    try simp only [Act.put, nz1, nz2, nz3]
    refine wpAnyH_ready (rs := [6]) (by kernel_rfl) (by simp) ?_
    refine consL 6 rfl (fun K hK => ?_) AllReadyH.nil
    (with_reducible apply s_stores hS); (· exact rowT44); (· exact rfl); (· exact rfl); (· exact rfl); (· (first | assumption | (simp [Value.oneCell']; done))); (· (repeat constructor)); (· (repeat constructor)); (· (repeat constructor)); clear hS; intro ws hS
    refine hK.out _ _ (by first | exact hS.sx0 | exact Sx.le (by assumption) hS.sx0) (fun hHeld => ?_)
    clear hK K
    try simp only [Act.put, nz1, nz2, nz3]
    focus (refine takeN 7 (v := ?_) rfl (by kernel_rfl) ?_ ?_; rotate_left; focus (intro w hSw; clear hSw; go_simp; try with_reducible rfl))
    try simp only [Act.put, nz1, nz2, nz3]
    refine wpAnyH_done (by kernel_rfl) ?_ _
    refine NoPanic.normal ?_
  rotate_right
  focus
    (with_reducible apply s_loads hS); (· exact rowT44); (· exact rfl); (· (first | (apply Finds.box; (· (repeat constructor)); (· (repeat constructor)); done) | (refine Finds.mem2 (by assumption) ?_; first | rfl | assumption | (simp; done)) | (apply Finds.row; (· (repeat constructor)); (· assumption); (· rfl))))
    refine hK.out _ _ (by first | exact hS.sx0 | exact Sx.le (by assumption) hS.sx0) (fun hHeld => ?_)
    clear hK K
    try simp only [Act.put, nz1, nz2, nz3]
    refine wpAnyH_ready (rs := [1]) (by kernel_rfl) (by simp) ?_
    refine consL 1 rfl (fun K hK => ?_) AllReadyH.nil
    rw [if_pos (by rfl)]; go_simp; refine (sector_c _ _ hS.inw 7 I7.out).mono ?_; rintro e' w15 ⟨v15, m2, rfl, hr2, hk⟩; replace hS := hS.call hk; have hle := hk.le; clear hk; have R2 := Lib.hid hr2; clear hr2; go_wp2_with fail
    refine hK.out _ _ (by first | exact hS.sx0 | exact Sx.le (by assumption) hS.sx0) (fun hHeld => ?_)
    clear hK K
    try simp only [Act.put, nz1, nz2, nz3]
    refine wpAnyH_ready (rs := [2]) (by kernel_rfl) (by simp) ?_
    refine consL 2 rfl (fun K hK => ?_) AllReadyH.nil
    rw [if_pos (by rfl)]; go_simp; refine (write_c _ _ hS.inw _ _ (dkL.mono hle R1.out) 1 I1.out _ _ R2.out).mono ?_; rintro e' w16 ⟨v16, m3, rfl, ⟨cs3, rfl, hr3⟩, hk⟩; replace hS := hS.call hk; have hle3 := hle.trans hk.le; clear hk hle; have R3 : Hid (dkL.rd m3 cs3 lv1) := hr3; rw [lv_e2]; obtain ⟨x2, x3, rfl, _⟩ := dkL_open R3.out; have hone3 := dkL.one R3.out; clear hr3; go_wp2_with fail
    refine hK.out _ _ (by first | exact hS.sx0 | exact Sx.le (by assumption) hS.sx0) (fun hHeld => ?_)
    clear hK K
    try simp only [Act.put, nz1, nz2, nz3]
    focus (refine takeN 3 (v := ?_) rfl (by kernel_rfl) ?_ ?_; rotate_left; focus (intro w hSw; clear hSw; go_simp; try with_reducible rfl))
    try simp only [Act.put, nz1, nz2, nz3]
    focus (refine takeN 4 (v := ?_) rfl (by kernel_rfl) ?_ ?_; rotate_left; focus (intro w hSw; clear hSw; go_simp; try with_reducible rfl))
    try simp only [Act.put, nz1, nz2, nz3]
    focus (refine takeN 5 (v := ?_) rfl (by kernel_rfl) ?_ ?_; rotate_left; focus (intro w hSw; clear hSw; go_simp; try with_reducible rfl))
    try simp only [Act.put, nz1, nz2, nz3]
    refine wpAnyH_ready (rs := [6]) (by kernel_rfl) (by simp) ?_
    refine consL 6 rfl (fun K hK => ?_) AllReadyH.nil
    (with_reducible apply s_stores hS); (· exact rowT44); (· exact rfl); (· exact rfl); (· exact rfl); (· (first | assumption | (simp [Value.oneCell']; done))); (· (repeat constructor)); (· (repeat constructor)); (· (repeat constructor)); clear hS; intro ws hS
    refine hK.out _ _ (by first | exact hS.sx0 | exact Sx.le (by assumption) hS.sx0) (fun hHeld => ?_)
    clear hK K
    try simp only [Act.put, nz1, nz2, nz3]
    focus (refine takeN 7 (v := ?_) rfl (by kernel_rfl) ?_ ?_; rotate_left; focus (intro w hSw; clear hSw; go_simp; try with_reducible rfl))
    try simp only [Act.put, nz1, nz2, nz3]
    refine wpAnyH_done (by kernel_rfl) ?_ _
    refine NoPanic.normal ?_
  all_goals
    clear hone hle3
    go_wp2_with (first 
    | ((with_reducible apply l_alloc (ty := 44) (dst := some 1) hS (.agg #[.slice none 0 0, .slice none 0 0, .int .i64 0, .bool false]) [.slice none 0 0, .slice none 0 0, .int .i64 0, .bool false]); (· kernel_rfl); (· rfl); clear hS; intro w1 b1 hS)
    | ((with_reducible apply l_load hS); (· (first | exact Try.underlying5)); (· exact rfl); (· exact rfl); (· (first | (apply Find.box; (· (repeat constructor)); rfl) | exact Find.mem (by assumption) | (apply Find.row; (· (repeat constructor)); assumption))))
    | ((with_reducible apply g_load hS); (· (first | exact Try.underlying5)); (· exact rfl); (· (first | rfl | (go_simp; done))); (· exact rfl); (· (first | (apply Find.box; (· (repeat constructor)); rfl) | exact Find.mem (by assumption) | (apply Find.row; (· (repeat constructor)); assumption))))
    | ((with_reducible apply l_loads hS); (· (first | exact rowT44)); (· exact rfl); (· (first | (apply Finds.box; (· (repeat constructor)); (· (repeat constructor)); done) | (refine Finds.mem2 (by assumption) ?_; first | rfl | assumption | (simp; done)) | (apply Finds.row; (· (repeat constructor)); (· assumption); (· rfl)))))
    | ((with_reducible apply g_loads hS); (· (first | exact rowT44)); (· (first | rfl | (go_simp; done))); (· exact rfl); (· (first | (apply Finds.box; (· (repeat constructor)); (· (repeat constructor)); done) | (refine Finds.mem2 (by assumption) ?_; first | rfl | assumption | (simp; done)) | (apply Finds.row; (· (repeat constructor)); (· assumption); (· rfl)))))
    | ((with_reducible apply l_stores hS); (· (first | exact rowT44)); (· exact rfl); (· exact rfl); (· exact rfl); (· (first | assumption | (simp [Value.oneCell']; done))); (· (repeat constructor)); (· (repeat constructor)); (· (repeat constructor)); clear hS; intro ws hS)
      | (go_at_call 37; refine (flush_c _ _ hS.inw _ _ R3.out).mono ?_; rintro e' w21 ⟨v21, m4, rfl, ⟨cs4, rfl, hr4⟩, hk⟩; replace hS := hS.call hk; clear hk hone3; have R4 : Hid (dkL.rd m4 cs4 lv2) := hr4; rw [lv_e3]; obtain ⟨x4, x5, rfl, _⟩ := dkL_open R4.out; have hone4 := dkL.one R4.out; clear hr4))
    replace hS := hS.drew
    refine startL (S := Sx _ []) (by kernel_rfl) hS.sx0 (fun _ _ _ _ => trivial) (fun hHeld => ?_)
    refine wpAnyH_ready (rs := [0, 1]) (by kernel_rfl) (by simp) ?_
    refine consL 0 rfl (fun K hK => ?_) (consL 1 rfl (fun K hK => ?_) AllReadyH.nil)
    rotate_right
    focus
      rw [if_pos (by rfl)]; go_simp; refine (sector_c _ _ hS.inw 9 I9.out).mono ?_; rintro e' w26 ⟨v26, m5, rfl, hr5, hk⟩; replace hS := hS.call hk; have hle5 := hk.le; clear hk; have R5 := Lib.hid hr5; clear hr5; go_wp2_with fail
      refine hK.out _ _ (by first | exact hS.sx0 | exact Sx.le (by assumption) hS.sx0) (fun hHeld => ?_)
      clear hK K
      try simp only [Act.put, nz1, nz2, nz3]
      refine wpAnyH_ready (rs := [0]) (by kernel_rfl) (by simp) ?_
      refine consL 0 rfl (fun K hK => ?_) AllReadyH.nil
      (with_reducible apply s_loads hS); (· exact rowT44); (· exact rfl); (· (first | (apply Finds.box; (· (repeat constructor)); (· (repeat constructor)); done) | (refine Finds.mem2 (by assumption) ?_; first | rfl | assumption | (simp; done)) | (apply Finds.row; (· (repeat constructor)); (· assumption); (· rfl))))
      refine hK.out _ _ (by first | exact hS.sx0 | exact Sx.le (by assumption) hS.sx0) (fun hHeld => ?_)
      clear hK K
      try simp only [Act.put, nz1, nz2, nz3]
      refine wpAnyH_ready (rs := [2]) (by kernel_rfl) (by simp) ?_
      refine consL 2 rfl (fun K hK => ?_) AllReadyH.nil
      rw [if_pos (by rfl)]; go_simp; refine (write_c _ _ hS.inw _ _ (dkL.mono hle5 R4.out) 1 I1.out _ _ R5.out).mono ?_; rintro e' w27 ⟨v27, m6, rfl, ⟨cs6, rfl, hr6⟩, hk⟩; replace hS := hS.call hk; have hle6 := hle5.trans hk.le; clear hk hle5; have R6 : Hid (dkL.rd m6 cs6 lv3) := hr6; rw [lv_e4]; obtain ⟨x6, x7, rfl, _⟩ := dkL_open R6.out; have hone6 := dkL.one R6.out; clear hr6; go_wp2_with fail
      refine hK.out _ _ (by first | exact hS.sx0 | exact Sx.le (by assumption) hS.sx0) (fun hHeld => ?_)
      clear hK K
      try simp only [Act.put, nz1, nz2, nz3]
      focus (refine takeN 3 (v := ?_) rfl (by kernel_rfl) ?_ ?_; rotate_left; focus (intro w hSw; clear hSw; go_simp; try with_reducible rfl))
      try simp only [Act.put, nz1, nz2, nz3]
      focus (refine takeN 4 (v := ?_) rfl (by kernel_rfl) ?_ ?_; rotate_left; focus (intro w hSw; clear hSw; go_simp; try with_reducible rfl))
      try simp only [Act.put, nz1, nz2, nz3]
      focus (refine takeN 5 (v := ?_) rfl (by kernel_rfl) ?_ ?_; rotate_left; focus (intro w hSw; clear hSw; go_simp; try with_reducible rfl))
      try simp only [Act.put, nz1, nz2, nz3]
      refine wpAnyH_ready (rs := [6]) (by kernel_rfl) (by simp) ?_
      refine consL 6 rfl (fun K hK => ?_) AllReadyH.nil
      (with_reducible apply s_stores hS); (· exact rowT44); (· exact rfl); (· exact rfl); (· exact rfl); (· (first | assumption | (simp [Value.oneCell']; done))); (· (repeat constructor)); (· (repeat constructor)); (· (repeat constructor)); clear hS; intro ws hS
      refine hK.out _ _ (by first | exact hS.sx0 | exact Sx.le (by assumption) hS.sx0) (fun hHeld => ?_)
      clear hK K
      try simp only [Act.put, nz1, nz2, nz3]
      focus (refine takeN 7 (v := ?_) rfl (by kernel_rfl) ?_ ?_; rotate_left; focus (intro w hSw; clear hSw; go_simp; try with_reducible rfl))
      try simp only [Act.put, nz1, nz2, nz3]
      refine wpAnyH_done (by kernel_rfl) ?_ _
      refine NoPanic.normal ?_
    rotate_right
    focus
      (with_reducible apply s_loads hS); (· exact rowT44); (· exact rfl); (· (first | (apply Finds.box; (· (repeat constructor)); (· (repeat constructor)); done) | (refine Finds.mem2 (by assumption) ?_; first | rfl | assumption | (simp; done)) | (apply Finds.row; (· (repeat constructor)); (· assumption); (· rfl))))
      refine hK.out _ _ (by first | exact hS.sx0 | exact Sx.le (by assumption) hS.sx0) (fun hHeld => ?_)
      clear hK K
      try simp only [Act.put, nz1, nz2, nz3]
      refine wpAnyH_ready (rs := [1]) (by kernel_rfl) (by simp) ?_
      refine consL 1 rfl (fun K hK => ?_) AllReadyH.nil
      rw [if_pos (by rfl)]; go_simp; refine (sector_c _ _ hS.inw 9 I9.out).mono ?_; rintro e' w26 ⟨v26, m5, rfl, hr5, hk⟩; replace hS := hS.call hk; have hle5 := hk.le; clear hk; have R5 := Lib.hid hr5; clear hr5; go_wp2_with fail
      refine hK.out _ _ (by first | exact hS.sx0 | exact Sx.le (by assumption) hS.sx0) (fun hHeld => ?_)
      clear hK K
      try simp only [Act.put, nz1, nz2, nz3]
      refine wpAnyH_ready (rs := [2]) (by kernel_rfl) (by simp) ?_
      refine consL 2 rfl (fun K hK => ?_) AllReadyH.nil
      rw [if_pos (by rfl)]; go_simp; refine (write_c _ _ hS.inw _ _ (dkL.mono hle5 R4.out) 1 I1.out _ _ R5.out).mono ?_; rintro e' w27 ⟨v27, m6, rfl, ⟨cs6, rfl, hr6⟩, hk⟩; replace hS := hS.call hk; have hle6 := hle5.trans hk.le; clear hk hle5; have R6 : Hid (dkL.rd m6 cs6 lv3) := hr6; rw [lv_e4]; obtain ⟨x6, x7, rfl, _⟩ := dkL_open R6.out; have hone6 := dkL.one R6.out; clear hr6; go_wp2_with fail
      refine hK.out _ _ (by first | exact hS.sx0 | exact Sx.le (by assumption) hS.sx0) (fun hHeld => ?_)
      clear hK K
      try simp only [Act.put, nz1, nz2, nz3]
      focus (refine takeN 3 (v := ?_) rfl (by kernel_rfl) ?_ ?_; rotate_left; focus (intro w hSw; clear hSw; go_simp; try with_reducible rfl))
      try simp only [Act.put, nz1, nz2, nz3]
      focus (refine takeN 4 (v := ?_) rfl (by kernel_rfl) ?_ ?_; rotate_left; focus (intro w hSw; clear hSw; go_simp; try with_reducible rfl))
      try simp only [Act.put, nz1, nz2, nz3]
      focus (refine takeN 5 (v := ?_) rfl (by kernel_rfl) ?_ ?_; rotate_left; focus (intro w hSw; clear hSw; go_simp; try with_reducible rfl))
      try simp only [Act.put, nz1, nz2, nz3]
      refine wpAnyH_ready (rs := [6]) (by kernel_rfl) (by simp) ?_
      refine consL 6 rfl (fun K hK => ?_) AllReadyH.nil
      (with_reducible apply s_stores hS); (· exact rowT44); (· exact rfl); (· exact rfl); (· exact rfl); (· (first | assumption | (simp [Value.oneCell']; done))); (· (repeat constructor)); (· (repeat constructor)); (· (repeat constructor)); clear hS; intro ws hS
      refine hK.out _ _ (by first | exact hS.sx0 | exact Sx.le (by assumption) hS.sx0) (fun hHeld => ?_)
      clear hK K
      try simp only [Act.put, nz1, nz2, nz3]
      focus (refine takeN 7 (v := ?_) rfl (by kernel_rfl) ?_ ?_; rotate_left; focus (intro w hSw; clear hSw; go_simp; try with_reducible rfl))
      try simp only [Act.put, nz1, nz2, nz3]
      refine wpAnyH_done (by kernel_rfl) ?_ _
      refine NoPanic.normal ?_
  all_goals
    clear hone4 hle6
    go_wp2_with (first 
    | ((with_reducible apply l_alloc (ty := 44) (dst := some 1) hS (.agg #[.slice none 0 0, .slice none 0 0, .int .i64 0, .bool false]) [.slice none 0 0, .slice none 0 0, .int .i64 0, .bool false]); (· kernel_rfl); (· rfl); clear hS; intro w1 b1 hS)
    | ((with_reducible apply l_load hS); (· (first | exact Try.underlying5)); (· exact rfl); (· exact rfl); (· (first | (apply Find.box; (· (repeat constructor)); rfl) | exact Find.mem (by assumption) | (apply Find.row; (· (repeat constructor)); assumption))))
    | ((with_reducible apply g_load hS); (· (first | exact Try.underlying5)); (· exact rfl); (· (first | rfl | (go_simp; done))); (· exact rfl); (· (first | (apply Find.box; (· (repeat constructor)); rfl) | exact Find.mem (by assumption) | (apply Find.row; (· (repeat constructor)); assumption))))
    | ((with_reducible apply l_loads hS); (· (first | exact rowT44)); (· exact rfl); (· (first | (apply Finds.box; (· (repeat constructor)); (· (repeat constructor)); done) | (refine Finds.mem2 (by assumption) ?_; first | rfl | assumption | (simp; done)) | (apply Finds.row; (· (repeat constructor)); (· assumption); (· rfl)))))
    | ((with_reducible apply g_loads hS); (· (first | exact rowT44)); (· (first | rfl | (go_simp; done))); (· exact rfl); (· (first | (apply Finds.box; (· (repeat constructor)); (· (repeat constructor)); done) | (refine Finds.mem2 (by assumption) ?_; first | rfl | assumption | (simp; done)) | (apply Finds.row; (· (repeat constructor)); (· assumption); (· rfl)))))
    | ((with_reducible apply l_stores hS); (· (first | exact rowT44)); (· exact rfl); (· exact rfl); (· exact rfl); (· (first | assumption | (simp [Value.oneCell']; done))); (· (repeat constructor)); (· (repeat constructor)); (· (repeat constructor)); clear hS; intro ws hS)
      | ((with_reducible apply l_lit el_u8 hS (cs := [.int .u8 1])); (· decide); (· decide); (· kernel_rfl); clear hS; intro w32 b32 hS; obtain ⟨m7, hS7, hle7, hb7⟩ := hS.settleBox 0 rfl; have hrd7 := one_u8 hb7 inK_one; clear hb7; replace hS := hS7; simp only [List.eraseIdx_cons_zero] at hS; have K7 := Lib.hid hrd7; have R7 := Lib.hid (dkL.mono hle7 R6.out); clear hS7 hle7 hrd7)
      | (go_at_call 38; refine (crash_c _ _ hS.inw _ _ R7.out _ _ K7.out).mono ?_; rintro e' w33 ⟨v33, m8, rfl, ⟨cs8, rfl, hr8⟩, hk⟩; replace hS := hS.call hk; clear hk hone6; have R8 : Hid (dkL.rd m8 cs8 lv4) := hr8; rw [lv_e5]; obtain ⟨x8, x9, rfl, _⟩ := dkL_open R8.out; have hone8 := dkL.one R8.out; clear hr8)
      | (go_at_call 39; refine (read_c _ _ hS.inw _ _ R8.out 1).mono ?_; rintro e' w38 ⟨v38, m9, rfl, ⟨vb, rfl, hr9⟩, hk⟩; replace hS := hS.call hk; clear hk hone8; rw [lv_e6]; rw [lv_b] at hr9; obtain ⟨pb, cb, rfl, _, _, _, hrow⟩ := Lay.list_open hr9; obtain ⟨bb, ob, z0, z1⟩ := hrow (by simp); subst z0; obtain ⟨ca, ⟨rfl, _⟩, za⟩ := z1 0 9 rfl; obtain ⟨cc, ⟨rfl, _⟩, zc⟩ := z1 1 7 rfl; have g0 := za 0 _ rfl; have g1 := zc 0 _ rfl; clear z1 za zc hrow hr9))
  all_goals
    go_ret
    exact ⟨_, _, rfl, rfl, hS.done⟩
end Go.Proofs.Ytnmgiiaejpaeeaa
/- How the arguments of a row are opened: slices of integers. -/
namespace Go.Proofs.Ytnmgiiaejpaeeaa
set_option linter.unusedVariables false
set_option linter.unusedSimpArgs false
open Go.RowKit Go.ChangeShapes Go.WideShapes
theorem rd_opened {k : IntKind} {W : World} {x : Addr} {len cap : Nat} {zs : List Int} (hl : len ≤ cap) (hm : cap ≤ maxLen) (hz : zs.length = cap)
    (hc : ∀ i, i < zs.length → W.cell? (x.add i) = some (.int k (zs.getD i 0))) (hw : ∀ n ∈ zs, (Lit.int k n).wf = true) :
    ∃ xs : List Int, xs.length = len ∧ len ≤ cap ∧ cap ≤ maxLen ∧ Rd k W (some x) xs ∧ ∀ x ∈ xs, (Lit.int k x).wf = true := by
  refine ⟨zs.take len, by simp; omega, hl, hm, fun h0 => ?_, fun y hy => hw y (List.mem_of_mem_take hy)⟩
  simp at h0
  obtain ⟨b, o, s⟩ := x
  obtain rfl : s = none := by simpa [Addr.add] using World.cell?_spot (hc 0 (by omega))
  refine ⟨b, o, rfl, fun i hi => ?_⟩
  simp at hi
  rw [← Addr.add_lit, hc i (by omega)]
  simp [List.getD, List.getElem?_take, show i < len by omega]
theorem sized_rd {H : Type} {enc : TypeId × Value → H} {P : Program} {W : World} {base : Nat} {spare : Nat → Bool} {held : Bool} {t e : TypeId} {k : IntKind} {a : Option Addr} {len cap : Nat} {d : DataW H} {ps : List MemPlace} {ts : List TypeId} {ds : List (DataW H)} {j : Nat}
    (hsz : (DataW.weightsEach P ts ds).all (· ≤ reachBytes) = true) (ht : ts[j]? = some t) (hd : ds[j]? = some d) (hu : P.underlying t = some (.slice e)) (he : P.underlying e = some (.int k)) (hc : P.cellsOf e = 1) {B : Nat} (hB : P.bytesOf e = B)
    (h : DataW.Trod enc P W base spare held t (.slice a len cap) d ps) : len * B ≤ 140737488351232 := by
  obtain ⟨fuel, hf⟩ := h
  rcases open_ints hu he hc hf with ⟨hcs, _⟩ | ⟨x, l, c, zs, hcs, _, hl, _, hz, hx, _, _⟩
  · simp [Value.cells] at hcs
    obtain ⟨rfl, rfl, rfl⟩ := hcs
    simp
  · simp [Value.cells] at hcs
    obtain ⟨rfl, rfl, rfl⟩ := hcs
    obtain ⟨rfl, _⟩ := Prod.mk.inj hx
    have z := sized_slice hsz ht hd hu
    rw [hB] at z
    have h2 : len ≤ zs.length := by rw [hz]; split <;> omega
    have h1 : (lits (H := H) k (zs.take len)).length + (lits (H := H) k (zs.drop len)).length = zs.length := by simp [lits]; omega
    rw [h1] at z
    exact Nat.le_trans (Nat.mul_le_mul_right _ h2) z
theorem isB_of_wf {xs : List Int} (h : ∀ x ∈ xs, (Lit.int .u8 x).wf = true) : IsB xs := fun x hx => by
  have := h x hx
  simp [Lit.wf, IntKind.min, IntKind.max, IntKind.signed, IntKind.bits] at this
  omega
end Go.Proofs.Ytnmgiiaejpaeeaa
/- Plain laws of disks, and the arguments of the laws' walks. -/
namespace Go.Proofs.Ytnmgiiaejpaeeaa
set_option linter.unusedVariables false
set_option linter.unusedSimpArgs false
open Go.RowKit Go.Shelf
theorem l_unwanted {P : Program} {ops : Array Oper} {Q : Exit → Act → World → Prop} {a : Act} {w : World} {rest : List Oper} {dst : Option Tmp} {op : Op} {rt : TypeId} {pos : String} {af : Array Edge} {g : Nat × Bool}
    (hw : Region.wanted ⟨dst, op, rt, pos, af, some g⟩ (yielded ops a.tmps) = false) (h : wpList P ops Q rest (a.put dst undef) w) : wpList P ops Q (⟨dst, op, rt, pos, af, some g⟩ :: rest) a w := wpList_skip hw h
/-- A disk lies at v. -/
def RdArg (w : World) (v : Value) (d : Dk) : Prop := ∃ cs, v = .agg cs.toArray ∧ dkL.rd (World.mem w) cs d
theorem bytes_arg {w : World} {p : Option Addr} {c : Nat} {xs : List Int} (hr : Rd .u8 w p xs) (hw : ∀ x ∈ xs, (Lit.int .u8 x).wf = true) (hc : xs.length ≤ c) (hm : c ≤ maxLen) (hy : xs.length * 1 ≤ 140737488351232) : bytesL.rd (World.mem w) [.slice p xs.length c] xs :=
  ⟨p, c, rfl, hc, hm, by simp [Lay.int, kBytes]; omega, rowInt (isB_inK (isB_of_wf hw)) fun h0 => hr h0⟩
theorem settled_length {d : Dk} (h : checkOK d) (many : Nat → Nat) (hm : ∀ i, many i ≤ 32) : (settleAt many 0 d.wet d.dry).length = d.dry.length :=
  settleAt_length many d.dry.length hm d.wet 0 d.dry rfl fun x hx => (placed_of_ok h x hx).2
theorem alive_zero {d : Dk} (h : aliveE d = 0) : checkOK d ∧ d.dead = false := by
  unfold aliveE at h
  split at h
  · rename_i hk
    split at h
    · cases h
    · exact ⟨hk, by simpa using ‹¬ d.dead = true›⟩
  · cases h
theorem alive_of_ok {d : Dk} (h : checkOK d) (hd : d.dead = false) : aliveE d = 0 := by
  unfold aliveE; rw [if_pos h, hd]; rfl
theorem ok_settled {d : Dk} (h : checkOK d) (many : Nat → Nat) (hm : ∀ i, many i ≤ 32) (f : Int) (b : Bool) (h1 : -1 ≤ f) (h2 : f ≤ 1073741824) : checkOK ⟨settleAt many 0 d.wet d.dry, [], f, b⟩ := by
  have hl := settled_length h many hm
  obtain ⟨k1, k2, k3, k4, k5, k6, k7⟩ := h
  exact ⟨by rw [hl]; exact k1, by rw [hl]; exact k2, by rw [hl]; exact k3, by simp, rfl, h1, h2⟩
theorem crash_ok {d : Dk} (h : checkOK d) (keep : List Int) : crashD d keep = ⟨settleAt (keepN keep) 0 d.wet d.dry, [], -1, false⟩ := if_pos h
theorem crash_check {d : Dk} (h : checkOK d) (keep : List Int) : checkOK (crashD d keep) := by
  rw [crash_ok h]; exact ok_settled h _ (keepN_le keep) _ _ (by omega) (by omega)
theorem crash_twice {d : Dk} (h : checkOK d) (k k' : List Int) : crashD (crashD d k) k' = crashD d k := by
  rw [crash_ok (crash_check h k), crash_ok h]; rfl
theorem flush_zero {d : Dk} (h : flushE d = 0) : checkOK d ∧ d.dead = false ∧ d.fuse ≠ 0 ∧ flushD d = ⟨settleAt (fun _ => 32) 0 d.wet d.dry, [], (if d.fuse = -1 then -1 else d.fuse - 1), false⟩ := by
  unfold flushE at h
  split at h
  · rename_i ha
    obtain ⟨hk, hd⟩ := alive_zero ha
    have hf : d.fuse ≠ 0 := by
      intro e
      unfold deedE at h
      rw [if_pos e] at h
      cases h
    refine ⟨hk, hd, hf, ?_⟩
    unfold flushD deedD
    rw [if_pos ha, if_neg hf, hd]
    rfl
  · contradiction
theorem flush_ok {d : Dk} (h : flushE d = 0) : checkOK (flushD d) ∧ (flushD d).dead = false ∧ (flushD d).wet = [] := by
  obtain ⟨hk, hd, hf, e⟩ := flush_zero h
  rw [e]
  refine ⟨ok_settled hk _ (fun _ => Nat.le_refl _) _ _ ?_ ?_, rfl, rfl⟩
  all_goals
    have := hk.2.2.2.2.2
    split <;> omega
theorem flush_twice {d : Dk} (h : flushE d = 0) : (flushE (flushD d) = 0 ∧ (flushD (flushD d)).dry = (flushD d).dry) ∨ (flushE (flushD d) = 11 ∧ (flushD d).fuse = 0) := by
  obtain ⟨h1, h2, h3⟩ := flush_ok h
  have ha := alive_of_ok h1 h2
  by_cases hf : (flushD d).fuse = 0
  · right
    exact ⟨by unfold flushE deedE; rw [if_pos ha, if_pos hf], hf⟩
  · left
    have he : flushE (flushD d) = 0 := by unfold flushE deedE; rw [if_pos ha, if_neg hf]
    refine ⟨he, ?_⟩
    rw [(flush_zero he).2.2.2, h3]
    rfl
end Go.Proofs.Ytnmgiiaejpaeeaa
/- The rules of the walk with a closed conclusion: the goal is not reckoned out when a rule is tried. -/
namespace Go.Proofs.Ytnmgiiaejpaeeaa
set_option linter.unusedVariables false
set_option linter.unusedSimpArgs false
open Go.RowKit
variable {ops : Array Oper} {P : Program} {X : List Nat} {w0 w : World} {m0 m : Mem} {es : List Ent} {o : Oper} {a : Act} {K : Act → World → Prop} {Q : Exit → Act → World → Prop}
variable {rest : List Oper} {dst : Option Tmp} {rt : TypeId} {pos : String} {af : Array Edge} {E : Prop} {g : Nat × Bool}
inductive Wl (P : Program) (ops : Array Oper) (Q : Exit → Act → World → Prop) (l : List Oper) (a : Act) (w : World) : Prop
  | mk : wpList P ops Q l a w → Wl P ops Q l a w
theorem Wl.out {l : List Oper} (h : Wl P ops Q l a w) : wpList P ops Q l a w := by cases h; assumption
theorem wl_box {ty : TypeId} {y : Operand} (hS : St X w0 m0 w es m) {cs : List Value} {v : Value} (hy : a.eval y = v) (hc : v.cells = cs.toArray) (h : ∀ w' b, St X w0 m0 w' (.box b cs :: es) m → wpList P ops Q rest (a.put dst (.pointer (some ⟨b, 0, none⟩))) w') : Wl P ops Q (⟨dst, .box ty y, rt, pos, af, none⟩ :: rest) a w := ⟨(
  wpList_plain rfl fun K hK => op_box hS ty y rfl cs (by rw [hy]; exact hc) fun w' b hw => hK _ _ (h w' b hw))⟩
theorem wl_alloc {ty : TypeId} (hS : St X w0 m0 w es m) (z : Value) (cs : List Value) (hz : (P.info? ty).bind (·.zero) = some z) (hc : z.cells = cs.toArray) (h : ∀ w' b, St X w0 m0 w' (.box b cs :: es) m → wpList P ops Q rest (a.put dst (.pointer (some ⟨b, 0, none⟩))) w') : Wl P ops Q (⟨dst, .alloc ty, rt, pos, af, none⟩ :: rest) a w := ⟨(
  wpList_plain rfl fun K hK => op_alloc hS ty rfl z hz cs hc fun w' b hw => hK _ _ (h w' b hw))⟩
theorem wl_load {ty : TypeId} {x : Operand} (hS : St X w0 m0 w es m) {d : TypeDesc} (hu : P.underlying ty = some d) (hd : d.isRow = false) {b off : Nat} (hx : a.eval x = .pointer (some ⟨b, off, none⟩)) {v : Value} (hv : Find es m b off v)
    (h : wpList P ops Q rest (a.put dst v) w) : Wl P ops Q (⟨dst, .load ty x, rt, pos, af, none⟩ :: rest) a w := ⟨( wpList_plain rfl fun K hK => a_load hS ty x rfl hu hd hx hv (hK _ _ h))⟩
theorem wg_load {ty : TypeId} {x : Operand} (hS : St X w0 m0 w es m) {d : TypeDesc} (hu : P.underlying ty = some d) (hd : d.isRow = false) (hw : Region.wanted ⟨dst, .load ty x, rt, pos, af, some g⟩ (yielded ops a.tmps) = true) {b off : Nat} (hx : a.eval x = .pointer (some ⟨b, off, none⟩)) {v : Value} (hv : Find es m b off v)
    (h : wpList P ops Q rest (a.put dst v) w) : Wl P ops Q (⟨dst, .load ty x, rt, pos, af, some g⟩ :: rest) a w := ⟨( wpList_step fun K hK => step_guard hw (a_load hS ty x rfl hu hd hx hv (hK _ _ h)))⟩
theorem wl_loads {ty : TypeId} {x : Operand} (hS : St X w0 m0 w es m) {n : Nat} (hn : ∃ d, P.underlying ty = some d ∧ d.isRow = true ∧ (P.info? ty).map (·.size) = some n) {b off : Nat} (hx : a.eval x = .pointer (some ⟨b, off, none⟩)) {vs : List Value} (hv : Finds es m b off n vs)
    (h : wpList P ops Q rest (a.put dst (.agg vs.toArray)) w) : Wl P ops Q (⟨dst, .load ty x, rt, pos, af, none⟩ :: rest) a w := ⟨( by
  obtain ⟨d, hu, hd, hn⟩ := hn
  exact wpList_plain rfl fun K hK => a_loads hS ty x rfl hu hd n hn hx hv (hK _ _ h))⟩
theorem wg_loads {ty : TypeId} {x : Operand} (hS : St X w0 m0 w es m) {n : Nat} (hn : ∃ d, P.underlying ty = some d ∧ d.isRow = true ∧ (P.info? ty).map (·.size) = some n) (hw : Region.wanted ⟨dst, .load ty x, rt, pos, af, some g⟩ (yielded ops a.tmps) = true) {b off : Nat} (hx : a.eval x = .pointer (some ⟨b, off, none⟩)) {vs : List Value} (hv : Finds es m b off n vs)
    (h : wpList P ops Q rest (a.put dst (.agg vs.toArray)) w) : Wl P ops Q (⟨dst, .load ty x, rt, pos, af, some g⟩ :: rest) a w := ⟨( by
  obtain ⟨d, hu, hd, hn⟩ := hn
  exact wpList_step fun K hK => step_guard hw (a_loads hS ty x rfl hu hd n hn hx hv (hK _ _ h)))⟩
theorem wl_store {ty : TypeId} {x y : Operand} (hS : St X w0 m0 w es m) (hn : ∃ d, P.underlying ty = some d ∧ d.isRow = false ∧ (P.info? ty).map (·.size) = some 1) {b off : Nat} (hx : a.eval x = .pointer (some ⟨b, off, none⟩)) {v : Value} (hy : a.eval y = v) (h1 : v.oneCell' = true) {cs cs' : List Value} {es' : List Ent}
    (hM : Ent.box b cs ∈ es) (hs : SetsL cs off [v] cs') (hU : UpdB es b cs cs' es') (h : ∀ w', St X w0 m0 w' es' m → wpList P ops Q rest (a.put dst undef) w') : Wl P ops Q (⟨dst, .store ty x y, rt, pos, af, none⟩ :: rest) a w := ⟨( by
  obtain ⟨d, hu, hd, hn⟩ := hn
  exact wpList_plain rfl fun K hK => a_store hS ty x y rfl hn hx hy h1 hU hs fun w' hw => hK _ _ (h w' hw))⟩
theorem wl_stores {ty : TypeId} {x y : Operand} (hS : St X w0 m0 w es m) {n : Nat} (hn : ∃ d, P.underlying ty = some d ∧ d.isRow = true ∧ (P.info? ty).map (·.size) = some n) {b off : Nat} (hx : a.eval x = .pointer (some ⟨b, off, none⟩)) {vs : List Value} (hy : a.eval y = .agg vs.toArray) (hl : vs.length = n) (h1 : ∀ v ∈ vs, v.oneCell' = true) {cs cs' : List Value} {es' : List Ent}
    (hM : Ent.box b cs ∈ es) (hs : SetsL cs off vs cs') (hU : UpdB es b cs cs' es') (h : ∀ w', St X w0 m0 w' es' m → wpList P ops Q rest (a.put dst undef) w') : Wl P ops Q (⟨dst, .store ty x y, rt, pos, af, none⟩ :: rest) a w := ⟨( by
  obtain ⟨d, hu, hd, hn⟩ := hn
  exact wpList_plain rfl fun K hK => a_stores hS ty x y rfl n hn hx hy hl h1 hU hs fun w' hw => hK _ _ (h w' hw))⟩
theorem wl_append {α : Type} (L : Lay α) {t e : TypeId} {z : Value} (hE : Elem P t e L.n L.bytes z) {s x : Operand} (hS : St X w0 m0 w es m) (hb : 0 < L.bytes) {v xv : Value} {n : Nat} {xs : List Value} {ys : List α} {f : Value → Nat → List Value → List Ent}
    (hs : a.eval s = v) (hi : RowAt es e L.n v n xs f) (hx : a.eval x = xv) (hr : L.list.rd m [xv] ys) (hbytes : (n + ys.length) * L.bytes ≤ 140737488355328)
    (h : ∀ w' q c news, CellsOf L m news ys → St X w0 m0 w' (f (.slice q (n + ys.length) c) (n + ys.length) (xs ++ news)) m → wpList P ops Q rest (a.put dst (.slice q (n + ys.length) c)) w') : Wl P ops Q (⟨dst, .call { callee := .builtin .append, args := #[s, x], argTypes := #[t, t] }, rt, pos, af, none⟩ :: rest) a w := ⟨(
  wpList_plain rfl fun K hK => op_appendL hS hE s x rfl hs hi hx hr hbytes hb fun w' q c news hc hw => hK _ _ (h w' q c news hc hw))⟩
theorem wl_append_nil {α : Type} (L : Lay α) {t e : TypeId} {z : Value} (hE : Elem P t e L.n L.bytes z) {s x : Operand} (hS : St X w0 m0 w es m) (hb : 0 < L.bytes) {xv : Value} {ys : List α}
    (hs : a.eval s = .slice none 0 0) (hx : a.eval x = xv) (hr : L.list.rd m [xv] ys)
    (h : ∀ w' q c news, CellsOf L m news ys → St X w0 m0 w' (.row e L.n (.slice q ys.length c) ys.length news :: es) m → wpList P ops Q rest (a.put dst (.slice q ys.length c)) w') : Wl P ops Q (⟨dst, .call { callee := .builtin .append, args := #[s, x], argTypes := #[t, t] }, rt, pos, af, none⟩ :: rest) a w := ⟨(
  wpList_plain rfl fun K hK => op_appendL_nil hS hE s x rfl hs hx hr hb fun w' q c news hc hw => hK _ _ (h w' q c news hc hw))⟩
theorem wl_appendB {t e : TypeId} {size bytes : Nat} {z : Value} (hE : Elem P t e size bytes z) {s x : Operand} (hS : St X w0 m0 w es m) (hb : 0 < bytes) {v : Value} {n : Nat} {xs : List Value} {b k c : Nat} {cs : List Value} {f : Value → Nat → List Value → List Ent} (hs : a.eval s = v) (hi : RowAt es e size v n xs f)
    (hx : a.eval x = .slice (some ⟨b, 0, none⟩) k c) (hM : Ent.box b cs ∈ es) (hl : cs.length = k * size) (h1 : ∀ u ∈ cs, u.oneCell' = true) (hbytes : (n + k) * bytes ≤ 140737488355328)
    (h : ∀ w' q c, St X w0 m0 w' (f (.slice q (n + k) c) (n + k) (xs ++ cs)) m → wpList P ops Q rest (a.put dst (.slice q (n + k) c)) w') : Wl P ops Q (⟨dst, .call { callee := .builtin .append, args := #[s, x], argTypes := #[t, t] }, rt, pos, af, none⟩ :: rest) a w := ⟨(
  wpList_plain rfl fun K hK => op_appendB hS hE s x rfl hs hi hx hM hl h1 hbytes hb fun w' q c hw => hK _ _ (h w' q c hw))⟩
theorem wl_lit {t e : TypeId} {size bytes : Nat} {z : Value} (hE : Elem P t e size bytes z) {len : Nat} {parts : Array (Nat × Operand)} (hS : St X w0 m0 w es m) {cs : List Value} (hlen : len * size ≤ 16777216) (hpos : len * size ≠ 0)
    (hf : Instr.fill (fun i => some (i * size, size)) ((Array.range (len * size)).map (z.cells[· % z.cells.size]!)) (parts.map fun (i, x) => (i, a.eval x)).toList = some cs.toArray)
    (h : ∀ w' b, St X w0 m0 w' (.box b cs :: es) m → wpList P ops Q rest (a.put dst (.slice (some ⟨b, 0, none⟩) len len)) w') : Wl P ops Q (⟨dst, .buildSlice t len parts, rt, pos, af, none⟩ :: rest) a w := ⟨(
  wpList_plain rfl fun K hK => op_lit hS hE len parts rfl hlen hpos cs hf fun w' b hw => hK _ _ (h w' b hw))⟩
theorem wl_copyR {d s : Operand} {dT sT elem t : TypeId} (hS : St X w0 m0 w es m) (hu : P.underlying dT = some (.slice elem)) (hsz : (P.info? elem).map (·.size) = some 1)
    {k : IntKind} {dry xs : List Int} {g cd off n dLen dCap : Nat} {sv : Value} {f : Value → Nat → List Value → List Ent} (hd : a.eval d = .slice (some ⟨g, off, none⟩) dLen dCap) (hi : RowAt es t 1 (.slice (some ⟨g, 0, none⟩) n cd) n (dry.map (.int k)) f) (hn : dry.length = n)
    (hs : a.eval s = sv) (hr : (Lay.int k).list.rd m [sv] xs) (hx : xs.length ≤ dLen) (hfit : off + dLen ≤ n)
    (h : ∀ w', St X w0 m0 w' (f (.slice (some ⟨g, 0, none⟩) n cd) n ((splice dry off xs).map (.int k))) m → wpList P ops Q rest (a.put dst (.int .i64 xs.length)) w') : Wl P ops Q (⟨dst, .call { callee := .builtin .copy, args := #[d, s], argTypes := #[dT, sT] }, rt, pos, af, none⟩ :: rest) a w := ⟨(
  wpList_plain rfl fun K hK => op_copyR hS d s dT sT rfl hu hsz hd hi hn hs hr hx hfit fun w' hw => hK _ _ (h w' hw))⟩
theorem wl_storeR {ty : TypeId} {x y : Operand} (hS : St X w0 m0 w es m) (hn : ∃ d, P.underlying ty = some d ∧ d.isRow = false ∧ (P.info? ty).map (·.size) = some 1) {g off : Nat} (hx : a.eval x = .pointer (some ⟨g, off, none⟩)) {v : Value} (hy : a.eval y = v) (h1 : v.oneCell' = true)
    {e : TypeId} {size n c : Nat} {xs : List Value} {f : Value → Nat → List Value → List Ent} (hi : RowAt es e size (.slice (some ⟨g, 0, none⟩) n c) n xs f) (hl : off < xs.length)
    (h : ∀ w', St X w0 m0 w' (f (.slice (some ⟨g, 0, none⟩) n c) n (xs.set off v)) m → wpList P ops Q rest (a.put dst undef) w') : Wl P ops Q (⟨dst, .store ty x y, rt, pos, af, none⟩ :: rest) a w := ⟨(
  wpList_plain rfl fun K hK => op_storeR hS ty x y rfl hn hx hy h1 hi hl fun w' hw => hK _ _ (h w' hw))⟩
theorem wl_make {t e : TypeId} {size bytes : Nat} {z : Value} (hE : Elem P t e size bytes z) {l c : Operand} (n : Nat) (hS : St X w0 m0 w es m) {kl kc : IntKind} {xl xc : Int} (hl : a.eval l = .int kl xl) (hc : a.eval c = .int kc xc) (hl2 : xl = n) (hc2 : xc = n) (hbytes : bytes * n ≤ 281474976710656) (h24 : n * size ≤ 16777216) (h63 : n ≤ maxLen)
    (h : ∀ w' b, St X w0 m0 w' (.row e size (.slice (some ⟨b, 0, none⟩) n n) n (madeCells z.cells (n * size)).toList :: es) m → wpList P ops Q rest (a.put dst (.slice (some ⟨b, 0, none⟩) n n)) w') : Wl P ops Q (⟨dst, .makeSlice t l c, rt, pos, af, none⟩ :: rest) a w := ⟨(
  wpList_plain rfl fun K hK => op_make hS hE l c rfl n hl hc hl2 hc2 hbytes h24 h63 fun w' b hw => hK _ _ (h w' b hw))⟩
theorem wl_lit0 {t e : TypeId} {size bytes : Nat} {z : Value} (hE : Elem P t e size bytes z) (hS : St X w0 m0 w es m)
    (h : ∀ w' b, St X w0 m0 w' (.row e size (.slice (some ⟨b, 0, none⟩) 0 0) 0 [] :: es) m → wpList P ops Q rest (a.put dst (.slice (some ⟨b, 0, none⟩) 0 0)) w') : Wl P ops Q (⟨dst, .buildSlice t 0 #[], rt, pos, af, none⟩ :: rest) a w := ⟨(
  wpList_plain rfl fun K hK => op_lit0 hS hE rfl fun w' b hw => hK _ _ (h w' b hw))⟩
theorem wl_unwanted {P : Program} {ops : Array Oper} {Q : Exit → Act → World → Prop} {a : Act} {w : World} {rest : List Oper} {dst : Option Tmp} {op : Op} {rt : TypeId} {pos : String} {af : Array Edge} {g : Nat × Bool}
    (hw : Region.wanted ⟨dst, op, rt, pos, af, some g⟩ (yielded ops a.tmps) = false) (h : wpList P ops Q rest (a.put dst undef) w) : Wl P ops Q (⟨dst, op, rt, pos, af, some g⟩ :: rest) a w := ⟨( wpList_skip hw h)⟩
theorem wg_case {ty : TypeId} {x : Operand} (hT : Region.wanted ⟨dst, .load ty x, rt, pos, af, some g⟩ (yielded ops a.tmps) = true → wpList P ops Q (⟨dst, .load ty x, rt, pos, af, some g⟩ :: rest) a w)
    (hF : Region.wanted ⟨dst, .load ty x, rt, pos, af, some g⟩ (yielded ops a.tmps) = false → wpList P ops Q (⟨dst, .load ty x, rt, pos, af, some g⟩ :: rest) a w) : Wl P ops Q (⟨dst, .load ty x, rt, pos, af, some g⟩ :: rest) a w := by
  cases h : Region.wanted ⟨dst, .load ty x, rt, pos, af, some g⟩ (yielded ops a.tmps) with
  | true => exact ⟨hT h⟩
  | false => exact ⟨hF h⟩
end Go.Proofs.Ytnmgiiaejpaeeaa
/- Results of calls as letters: what a walk carries on is a letter, what it stands for lies hidden. -/
namespace Go.Proofs.Ytnmgiiaejpaeeaa
set_option linter.unusedVariables false
set_option linter.unusedSimpArgs false
open Go.RowKit Go.Shelf
variable {P : Program} {f : FuncId} {args : Array Value} {w : World} {m : Mem}
theorem St.leSelf {X : List Nat} {w0 w : World} {m0 m : Mem} {es : List Ent} (_ : St X w0 m0 w es m) : m.Le m := Mem.Le.refl m
theorem St.settleRow' {X : List Nat} {w0 w : World} {m0 m : Mem} {es : List Ent} {α : Type} {L : Lay α} (hS : St X w0 m0 w es m) (i : Nat) {e : TypeId} {v : Value} {cells : List Value} {xs : List α} {n : Nat} (hn : xs.length = n) (hi : es[i]? = some (.row e L.n v n cells)) (hc : CellsOf L m cells xs) (hb : xs.length * L.bytes ≤ 140737488355328) :
    ∃ m', St X w0 m0 w (es.eraseIdx i) m' ∧ m.Le m' ∧ L.list.rd m' [v] xs := by
  subst hn
  exact hS.settleRow i hi hc hb
theorem letB {b : Bool} (h : Calls P f args w (Ret w m fun v _ => v = .bool b)) : Calls P f args w (Ret w m fun v _ => ∃ b', Hid (b' = b) ∧ v = .bool b') :=
  h.mono fun e w' ⟨v, m', h1, h2, h3⟩ => ⟨v, m', h1, ⟨b, rfl, h2⟩, h3⟩
theorem letInt {k : IntKind} {x : Int} (h : Calls P f args w (Ret w m fun v _ => v = .int k x)) : Calls P f args w (Ret w m fun v _ => ∃ x', Hid (x' = x) ∧ v = .int k x') :=
  h.mono fun e w' ⟨v, m', h1, h2, h3⟩ => ⟨v, m', h1, ⟨x, rfl, h2⟩, h3⟩
/-- A disk opened: its cells. -/
theorem dkL_cells {m : Mem} {cs : List Value} {d : Dk} (h : dkL.rd m cs d) : ∃ p c q e, cs = [.slice p d.dry.length c, .slice q d.wet.length e, .int .i64 d.fuse, .bool d.dead] ∧ Hid (dkL.rd m cs d) := by
  have hh := h
  obtain ⟨v0, v1, rfl, h0, h1, _⟩ := dkL_open h
  obtain ⟨p0, c0, rfl, _⟩ := Lay.list_open h0
  obtain ⟨p1, c1, rfl, _⟩ := Lay.list_open h1
  exact ⟨p0, c0, p1, c1, rfl, hh⟩
theorem dkL_dry {m : Mem} {v0 v1 v2 v3 : Value} {d : Dk} (h : dkL.rd m [v0, v1, v2, v3] d) : bytesL.rd m [v0] d.dry := by
  obtain ⟨x0, x1, e, h0, _⟩ := dkL_open h
  cases e
  exact h0
theorem letDE {d : Dk} {e : Int} (h : Calls P f args w (RetDE w m d e)) : Calls P f args w (Ret w m fun v m' => ∃ p c q a d' e', Hid (d' = d) ∧ Hid (e' = e) ∧ v = .tuple #[.agg ([.slice p d'.dry.length c, .slice q d'.wet.length a, .int .i64 d'.fuse, .bool d'.dead] : List Value).toArray, .int .i64 e'] ∧ Hid (dkL.rd m' [.slice p d'.dry.length c, .slice q d'.wet.length a, .int .i64 d'.fuse, .bool d'.dead] d')) :=
  h.mono fun en w' ⟨v, m', h1, ⟨cs, h2, h3⟩, h4⟩ => by
    obtain ⟨p, c, q, a, rfl, h5⟩ := dkL_cells h3
    exact ⟨v, m', h1, ⟨p, c, q, a, d, e, rfl, rfl, h2, h5⟩, h4⟩
theorem letBE {b : List Int} {e : Int} (h : Calls P f args w (RetBE w m b e)) : Calls P f args w (Ret w m fun v m' => ∃ p c b' e', Hid (b' = b) ∧ Hid (e' = e) ∧ v = .tuple #[.slice p b'.length c, .int .i64 e'] ∧ Hid (bytesL.rd m' [.slice p b'.length c] b') ∧ Hid (b'.length ≤ c ∧ c ≤ maxLen)) :=
  h.mono fun en w' ⟨v, m', h1, ⟨vb, h2, h3⟩, h4⟩ => by
    have hh := h3
    obtain ⟨p, c, rfl, a1, a2, _⟩ := Lay.list_open h3
    exact ⟨v, m', h1, ⟨p, c, b, e, rfl, rfl, h2, hh, a1, a2⟩, h4⟩
theorem letL {b : List Int} (h : Calls P f args w (Ret w m fun v m' => bytesL.rd m' [v] b)) : Calls P f args w (Ret w m fun v m' => ∃ p c b', Hid (b' = b) ∧ v = .slice p b'.length c ∧ Hid (bytesL.rd m' [.slice p b'.length c] b') ∧ Hid (b'.length ≤ c ∧ c ≤ maxLen)) :=
  h.mono fun en w' ⟨v, m', h1, h3, h4⟩ => by
    have hh := h3
    obtain ⟨p, c, rfl, a1, a2, _⟩ := Lay.list_open h3
    exact ⟨_, m', h1, ⟨p, c, b, rfl, rfl, hh, a1, a2⟩, h4⟩
theorem letSame {x y : List Int} (h : Calls P f args w fun e w' => e = .returned (.bool (decide (x = y))) ∧ w = w') : Calls P f args w fun e w' => ∃ b', Hid (b' = decide (x = y)) ∧ e = .returned (.bool b') ∧ w = w' :=
  h.mono fun e w' ⟨h1, h2⟩ => ⟨_, rfl, h1, h2⟩
end Go.Proofs.Ytnmgiiaejpaeeaa
/- How the arguments of a law are opened: by layouts. -/
namespace Go.Proofs.Ytnmgiiaejpaeeaa
set_option linter.unusedVariables false
set_option linter.unusedSimpArgs false
open Go.RowKit Go.ChangeShapes Go.WideShapes
/-- What comes in at the type t is read by L. -/
def Opens {α : Type} (P : Program) (L : Lay α) (t : TypeId) : Prop := ∀ (H : Type) (enc : TypeId × Value → H) (W : World) (sp : Nat → Bool) (hd : Bool) (fuel : Nat) (cs : List Value) (d : DataW H) (ps : List MemPlace),
  DataW.trod enc P W 0 sp hd fuel t cs = some (d, ps) → (∀ n ∈ d.weights P t, n ≤ reachBytes) → ∃ x, L.rd (World.mem W) cs x
theorem wf_inK {k : IntKind} {n : Int} (h : (Lit.int k n).wf = true) : InK k n := by
  simp [Lit.wf] at h
  exact h
theorem Opens.int {P : Program} {t : TypeId} {k : IntKind} (ht : P.underlying t = some (.int k)) : Opens P (Lay.int k) t := by
  intro H enc W sp hd fuel cs d ps h _
  cases fuel with
  | zero => cases h
  | succ fuel =>
    unfold DataW.trod at h
    rw [ht] at h
    match cs, h with
    | [.int k' n], h =>
      simp only at h
      split at h
      · rename_i hk
        obtain ⟨rfl, hw⟩ := hk
        exact ⟨n, rfl, wf_inK hw⟩
      · cases h
theorem Opens.bool {P : Program} {t : TypeId} (ht : P.underlying t = some .bool) : Opens P Lay.bool t := by
  intro H enc W sp hd fuel cs d ps h _
  cases fuel with
  | zero => cases h
  | succ fuel =>
    unfold DataW.trod at h
    rw [ht] at h
    match cs, h with
    | [.bool b], h => exact ⟨b, rfl⟩
theorem weightsAll_mem {H : Type} {P : Program} {e : TypeId} : ∀ {l : List (DataW H)} {d : DataW H}, d ∈ l → ∀ n ∈ d.weights P e, n ∈ DataW.weightsAll P e l
  | x :: l, d, h, n, hn => by
    simp only [DataW.weightsAll, List.mem_append]
    rcases List.mem_cons.1 h with rfl | h
    · exact .inl hn
    · exact .inr (weightsAll_mem h n hn)
theorem Opens.list {α : Type} {P : Program} {L : Lay α} {t e : TypeId} (ht : P.underlying t = some (.slice e)) (he : Opens P L e) (hc : P.cellsOf e = L.n) (hb : P.bytesOf e = L.bytes) (h0 : 0 < L.n) : Opens P L.list t := by
  intro H enc W sp hd fuel cs d ps h hw
  rcases Go.Deep.open_slice ht h with ⟨rfl, _⟩ | ⟨a, len, cap, m, n, D, Pl, rfl, _, hl, hm, hmm, hx, hel⟩
  · exact ⟨[], Lay.nil_rd _ _⟩
  · obtain ⟨rfl, rfl⟩ := Prod.mk.inj hx
    have hlm : len ≤ m := by rw [hmm]; split <;> omega
    have hwt : (len + (m - len)) * P.bytesOf e ≤ reachBytes := by
      refine hw _ ?_
      simp [DataW.weights, ht]
    have hex : ∀ i : Fin len, ∃ x, ∃ cs', L.rd (World.mem W) cs' x ∧ ∀ j v, cs'[j]? = some v → W.cell? ((a.add (i.1 * L.n)).add j) = some v := by
      intro i
      obtain ⟨cs', h1, h2⟩ := hel i.1 (by have := i.2; omega)
      obtain ⟨x, hx⟩ := he H enc W sp hd n cs' (D i.1) (Pl i.1) h2 (fun k hk => hw k (by
        simp only [DataW.weights, ht, List.mem_cons, List.mem_append]
        exact .inr (.inl (weightsAll_mem (List.mem_map.2 ⟨i.1, by simp, rfl⟩) k hk))))
      obtain ⟨_, hlen, hcell⟩ := World.cells?_some h1
      refine ⟨x, cs', hx, fun j v hj => ?_⟩
      have hjl := (List.getElem?_eq_some_iff.1 hj).1
      have := hcell j (by omega)
      rw [hj, hc] at this
      exact this
    obtain ⟨f, hf⟩ := Classical.axiomOfChoice hex
    have hlen : (List.ofFn f).length = len := by simp
    refine ⟨List.ofFn f, some a, cap, by rw [hlen], by rw [hlen]; exact hl, hm, ?_, ?_⟩
    · rw [hlen, ← hb]
      have : len * P.bytesOf e ≤ (len + (m - len)) * P.bytesOf e := Nat.mul_le_mul_right _ (by omega)
      simp only [reachBytes] at hwt
      omega
    · intro hpos
      obtain ⟨cs0, hr0, hc0⟩ := hf ⟨0, by omega⟩
      obtain ⟨b, o, sp'⟩ := a
      obtain rfl : sp' = none := by
        have hl0 := L.len hr0
        simpa [Addr.add] using World.cell?_spot (hc0 0 cs0[0] (List.getElem?_eq_getElem (by omega)))
      refine ⟨b, o, rfl, fun i x hx => ?_⟩
      have hi : i < len := by have := (List.getElem?_eq_some_iff.1 hx).1; omega
      obtain ⟨cs', h1, h2⟩ := hf ⟨i, hi⟩
      have e1 : x = f ⟨i, hi⟩ := by
        have := (List.getElem?_eq_some_iff.1 hx).2
        rw [← this]; simp
      rw [e1]
      refine ⟨cs', h1, fun j v hj => ?_⟩
      have := h2 j v hj
      rw [Addr.add_lit, Addr.add_lit] at this
      exact this
set_option maxRecDepth 100000 in
theorem opens_wr : Opens Try.prog wrL 102 := by
  intro H enc W sp hd fuel cs d ps h hw
  obtain ⟨y0, y1, n, hx, hl, h0, h1⟩ := trod_struct2 Try.underlying102 h
  obtain ⟨rfl, rfl⟩ := Prod.mk.inj hx
  have hl2 : cs.length = 2 := hl
  match cs, hl2 with
  | [c0, c1], _ =>
    obtain ⟨x0, g0⟩ := Opens.int (k := .i64) Try.underlying3 H enc W sp hd n [c0] y0.1 y0.2 h0 (fun k hk => hw k (by simp [DataW.weights, Try.underlying102, DataW.weightsEach]; exact .inl hk))
    obtain ⟨x1, g1⟩ := Opens.list (L := u8L) Try.underlying22 (Opens.int Try.underlying5) (by kernel_rfl) (by kernel_rfl) (by decide) H enc W sp hd n [c1] y1.1 y1.2 h1 (fun k hk => hw k (by simp [DataW.weights, Try.underlying102, DataW.weightsEach]; exact .inr hk))
    exact ⟨⟨x0, x1⟩, [c0], [c1], rfl, g0, g1⟩
set_option maxRecDepth 100000 in
theorem opens_dk : Opens Try.prog dkL 44 := by
  intro H enc W sp hd fuel cs d ps h hw
  obtain ⟨y0, y1, y2, y3, n, hx, hl, h0, h1, h2, h3⟩ := Go.Joins.trod_struct4 Try.underlying44 h
  obtain ⟨rfl, rfl⟩ := Prod.mk.inj hx
  have hl2 : cs.length = 4 := hl
  match cs, hl2 with
  | [c0, c1, c2, c3], _ =>
    obtain ⟨x0, g0⟩ := Opens.list (L := u8L) Try.underlying22 (Opens.int Try.underlying5) (by kernel_rfl) (by kernel_rfl) (by decide) H enc W sp hd n [c0] y0.1 y0.2 h0 (fun k hk => hw k (by simp [DataW.weights, Try.underlying44, DataW.weightsEach]; exact .inl hk))
    obtain ⟨x1, g1⟩ := Opens.list (L := wrL) Try.underlying42 opens_wr (by kernel_rfl) (by kernel_rfl) (by decide) H enc W sp hd n [c1] y1.1 y1.2 h1 (fun k hk => hw k (by simp [DataW.weights, Try.underlying44, DataW.weightsEach]; exact .inr (.inl hk)))
    obtain ⟨x2, g2⟩ := Opens.int (k := .i64) Try.underlying3 H enc W sp hd n [c2] y2.1 y2.2 h2 (fun k hk => hw k (by simp [DataW.weights, Try.underlying44, DataW.weightsEach]; exact .inr (.inr (.inl hk))))
    obtain ⟨x3, g3⟩ := Opens.bool Try.underlying4 H enc W sp hd n [c3] y3.1 y3.2 h3 (fun k hk => hw k (by simp [DataW.weights, Try.underlying44, DataW.weightsEach]; exact .inr (.inr (.inr hk))))
    exact ⟨⟨x0, x1, x2, x3⟩, [c0, c1, c2], [c3], rfl, ⟨[c0, c1], [c2], rfl, ⟨[c0], [c1], rfl, g0, g1⟩, g2⟩, g3⟩
theorem weights_of {H : Type} {P : Program} {ts : List TypeId} {ds : List (DataW H)} {j : Nat} {t : TypeId} {d : DataW H} (hsz : (DataW.weightsEach P ts ds).all (· ≤ reachBytes) = true) (ht : ts[j]? = some t) (hd : ds[j]? = some d) : ∀ n ∈ d.weights P t, n ≤ reachBytes :=
  fun n hn => by simpa using List.all_eq_true.1 hsz n (DataW.weights_mem_each ht hd n hn)
set_option maxRecDepth 100000 in
/-- A disk comes in. -/
theorem openDisk {H : Type} {enc : TypeId × Value → H} {W : World} {sp : Nat → Bool} {hd : Bool} {v : Value} {d : DataW H} {ps : List MemPlace} {r : Reach} {b0 : Nat} (hv : Value.okWide Try.prog W r b0 44 v) (h : DataW.Trod enc Try.prog W 0 sp hd 44 v d ps) (hw : ∀ n ∈ d.weights Try.prog 44, n ≤ reachBytes) : ∃ x, RdArg W v x := by
  obtain ⟨v0, v1, v2, v3, y0, y1, y2, y3, n, rfl, rfl, rfl, h0, h1, h2, h3⟩ := Go.Joins.open_agg4 Try.underlying44 (by kernel_rfl) (by kernel_rfl) hv h
  obtain ⟨x0, g0⟩ := Opens.list (L := u8L) Try.underlying22 (Opens.int Try.underlying5) (by kernel_rfl) (by kernel_rfl) (by decide) H enc W sp hd n [v0] y0.1 y0.2 h0 (fun k hk => hw k (by simp [DataW.weights, Try.underlying44, DataW.weightsEach]; exact .inl hk))
  obtain ⟨x1, g1⟩ := Opens.list (L := wrL) Try.underlying42 opens_wr (by kernel_rfl) (by kernel_rfl) (by decide) H enc W sp hd n [v1] y1.1 y1.2 h1 (fun k hk => hw k (by simp [DataW.weights, Try.underlying44, DataW.weightsEach]; exact .inr (.inl hk)))
  obtain ⟨x2, g2⟩ := Opens.int (k := .i64) Try.underlying3 H enc W sp hd n [v2] y2.1 y2.2 h2 (fun k hk => hw k (by simp [DataW.weights, Try.underlying44, DataW.weightsEach]; exact .inr (.inr (.inl hk))))
  obtain ⟨x3, g3⟩ := Opens.bool Try.underlying4 H enc W sp hd n [v3] y3.1 y3.2 h3 (fun k hk => hw k (by simp [DataW.weights, Try.underlying44, DataW.weightsEach]; exact .inr (.inr (.inr hk))))
  exact ⟨⟨x0, x1, x2, x3⟩, [v0, v1, v2, v3], rfl, [v0, v1, v2], [v3], rfl, ⟨[v0, v1], [v2], rfl, ⟨[v0], [v1], rfl, g0, g1⟩, g2⟩, g3⟩
end Go.Proofs.Ytnmgiiaejpaeeaa
/- Plain laws of disks, sector by sector. -/
namespace Go.Proofs.Ytnmgiiaejpaeeaa
set_option linter.unusedVariables false
set_option linter.unusedSimpArgs false
open Go.RowKit
/-- A sector of what is kept. -/
def sec (b : List Int) (k : Nat) : List Int := (b.take (k * 32 + 32)).drop (k * 32)
theorem sec_get (b : List Int) (k i : Nat) : (sec b k)[i]? = if i < 32 then b[k * 32 + i]? else none := by
  unfold sec
  rw [List.getElem?_drop, List.getElem?_take]
  by_cases h : i < 32
  · rw [if_pos (by omega), if_pos h]
  · rw [if_neg (by omega), if_neg h]
theorem sec_length {b : List Int} {k : Nat} (h : (k + 1) * 32 ≤ b.length) : (sec b k).length = 32 := by
  unfold sec; simp; omega
theorem splice_get (b xs : List Int) (o i : Nat) (h : o + xs.length ≤ b.length) : (splice b o xs)[i]? = if i < o then b[i]? else if i < o + xs.length then xs[i - o]? else b[i]? := by
  unfold splice
  by_cases h1 : i < o
  · rw [if_pos h1, List.getElem?_append_left (by simp; omega), List.getElem?_take_of_lt h1]
  · rw [if_neg h1, List.getElem?_append_right (by simp; omega)]
    have e : (b.take o).length = o := by simp; omega
    rw [e]
    by_cases h2 : i < o + xs.length
    · rw [if_pos h2, List.getElem?_append_left (by omega)]
    · rw [if_neg h2, List.getElem?_append_right (by omega), List.getElem?_drop]
      congr 1; omega
theorem sec_splice_same {b xs : List Int} {k : Nat} (h : (k + 1) * 32 ≤ b.length) (hx : xs.length ≤ 32) : sec (splice b (k * 32) xs) k = xs ++ (sec b k).drop xs.length := by
  apply List.ext_getElem?
  intro i
  rw [sec_get, splice_get _ _ _ _ (by omega)]
  by_cases h1 : i < xs.length
  · rw [if_pos (by omega), if_neg (by omega), if_pos (by omega), List.getElem?_append_left h1]
    congr 1; omega
  · rw [List.getElem?_append_right (by omega), List.getElem?_drop, sec_get, show xs.length + (i - xs.length) = i by omega]
    by_cases h2 : i < 32
    · rw [if_pos h2, if_pos h2, if_neg (by omega), if_neg (by omega)]
    · rw [if_neg h2, if_neg h2]
theorem sec_splice_other {b xs : List Int} {k j : Nat} (h : (j + 1) * 32 ≤ b.length) (hx : xs.length ≤ 32) (hk : j ≠ k) : sec (splice b (j * 32) xs) k = sec b k := by
  apply List.ext_getElem?
  intro i
  rw [sec_get, sec_get]
  by_cases h2 : i < 32
  · rw [if_pos h2, if_pos h2, splice_get _ _ _ _ (by omega)]
    rcases Nat.lt_or_gt_of_ne hk with h3 | h3
    · rw [if_neg (by omega), if_neg (by omega)]
    · rw [if_pos (by omega)]
  · rw [if_neg h2, if_neg h2]
/-- What settling does to a sector. -/
def settleS (many : Nat → Nat) : Nat → List Wr → Nat → List Int → List Int
  | _, [], _, s => s
  | i, x :: l, k, s => settleS many (i + 1) l k (if x.pos = (k : Int) then x.b.take (many i) ++ s.drop (x.b.take (many i)).length else s)
theorem sec_settle (many : Nat → Nat) (k : Nat) : ∀ (l : List Wr) (i : Nat) (dry : List Int), (∀ x ∈ l, 0 ≤ x.pos ∧ (x.pos.toNat + 1) * 32 ≤ dry.length ∧ x.b.length = 32) → sec (settleAt many i l dry) k = settleS many i l k (sec dry k)
  | [], _, _, _ => rfl
  | x :: l, i, dry, h => by
    obtain ⟨h1, h2, h3⟩ := h x (by simp)
    have hl : (x.b.take (many i)).length ≤ 32 := by simp; omega
    have hsp : (splice dry (x.pos.toNat * 32) (x.b.take (many i))).length = dry.length := length_splice _ _ _ (by omega)
    show sec (settleAt many (i + 1) l (splice dry (x.pos.toNat * 32) (x.b.take (many i)))) k = settleS many (i + 1) l k _
    rw [sec_settle many k l (i + 1) _ (fun y hy => by rw [hsp]; exact h y (by simp [hy]))]
    congr 1
    by_cases hk : x.pos = (k : Int)
    · obtain rfl : x.pos.toNat = k := by omega
      rw [if_pos hk, sec_splice_same h2 hl]
    · rw [if_neg hk, sec_splice_other h2 hl (by omega)]
theorem lastOf_push (k : Int) : ∀ (l : List Wr) (x : Wr), lastOf k (l ++ [x]) = (lastOf k l).or (if x.pos = k then some x.b else none)
  | [], x => by simp [lastOf]
  | y :: l, x => by
    simp only [List.cons_append, lastOf]
    split
    · rfl
    · exact lastOf_push k l x
theorem settleS_full {many : Nat → Nat} {k : Nat} : ∀ (l : List Wr) (i : Nat) (s : List Int), (∀ j, i ≤ j → j < i + l.length → many j = 32) → (∀ x ∈ l, x.b.length = 32) → s.length = 32 → settleS many i l k s = (lastOf k l.reverse).getD s
  | [], _, _, _, _, _ => rfl
  | x :: l, i, s, hm, hl, hs => by
    show settleS many (i + 1) l k _ = _
    have h1 := hl x (by simp)
    have h2 := hm i (Nat.le_refl _) (by simp)
    rw [List.reverse_cons, lastOf_push]
    by_cases hk : x.pos = (k : Int)
    · rw [if_pos hk, if_pos hk, h2, List.take_of_length_le (by omega), List.drop_of_length_le (by omega), List.append_nil]
      rw [settleS_full l (i + 1) _ (fun j h3 h4 => hm j (by omega) (by simp; omega)) (fun y hy => hl y (by simp [hy])) h1]
      cases lastOf (k : Int) l.reverse <;> rfl
    · rw [if_neg hk, if_neg hk]
      rw [settleS_full l (i + 1) _ (fun j h3 h4 => hm j (by omega) (by simp; omega)) (fun y hy => hl y (by simp [hy])) hs]
      cases lastOf (k : Int) l.reverse <;> rfl
theorem settleS_append (many : Nat → Nat) (k : Nat) : ∀ (l r : List Wr) (i : Nat) (s : List Int), settleS many i (l ++ r) k s = settleS many (i + l.length) r k (settleS many i l k s)
  | [], r, i, s => by simp [settleS]
  | x :: l, r, i, s => by
    show settleS many (i + 1) (l ++ r) k _ = settleS many (i + (l.length + 1)) r k (settleS many (i + 1) l k _)
    rw [settleS_append many k l r (i + 1), show i + 1 + l.length = i + (l.length + 1) by omega]
theorem settleS_none {many : Nat → Nat} {k : Nat} : ∀ (l : List Wr) (i : Nat) (s : List Int), (∀ x ∈ l, x.pos ≠ (k : Int)) → settleS many i l k s = s
  | [], _, _, _ => rfl
  | x :: l, i, s, h => by
    show settleS many (i + 1) l k _ = _
    rw [if_neg (h x (by simp))]
    exact settleS_none l (i + 1) s fun y hy => h y (by simp [hy])
theorem settleS_zero {many : Nat → Nat} {k : Nat} : ∀ (l : List Wr) (i : Nat) (s : List Int), (∀ j, i ≤ j → j < i + l.length → many j = 0) → settleS many i l k s = s
  | [], _, _, _ => rfl
  | x :: l, i, s, h => by
    show settleS many (i + 1) l k _ = _
    rw [h i (Nat.le_refl _) (by simp)]
    have e : (if x.pos = (k : Int) then x.b.take 0 ++ s.drop (x.b.take 0).length else s) = s := by simp
    rw [e]
    exact settleS_zero l (i + 1) s fun j h3 h4 => h j (by omega) (by simp; omega)
theorem settleAt_congr {many many' : Nat → Nat} : ∀ (l : List Wr) (i : Nat) (dry : List Int), (∀ j, i ≤ j → j < i + l.length → many j = many' j) → settleAt many i l dry = settleAt many' i l dry
  | [], _, _, _ => rfl
  | x :: l, i, dry, h => by
    show settleAt many (i + 1) l _ = settleAt many' (i + 1) l _
    rw [h i (Nat.le_refl _) (by simp)]
    exact settleAt_congr l (i + 1) _ fun j h3 h4 => h j (by omega) (by simp; omega)
theorem settleAt_zero : ∀ (l : List Wr) (i : Nat) (dry : List Int), settleAt (fun _ => 0) i l dry = dry
  | [], _, _ => rfl
  | x :: l, i, dry => by
    show settleAt (fun _ => 0) (i + 1) l _ = dry
    rw [show splice dry (x.pos.toNat * 32) (x.b.take 0) = dry by simp [splice]]
    exact settleAt_zero l (i + 1) dry
/-! ### reads -/
theorem far_no {d : Dk} {k : Int} (h : farD d k = false) : ∃ n : Nat, k = n ∧ (n + 1) * 32 ≤ d.dry.length := by
  unfold farD at h
  simp only [decide_eq_false_iff_not] at h
  exact ⟨k.toNat, by omega, by omega⟩
theorem far_nat {d : Dk} {n : Nat} (h : (n + 1) * 32 ≤ d.dry.length) : farD d n = false := by
  unfold farD
  simp only [decide_eq_false_iff_not]
  omega
theorem read_zero {d : Dk} {k : Int} (h : readE d k = 0) : checkOK d ∧ d.dead = false ∧ ∃ n : Nat, k = n ∧ (n + 1) * 32 ≤ d.dry.length ∧ readB d k = (lastOf n d.wet.reverse).getD (sec d.dry n) := by
  have hB : readB d k = (lastOf k d.wet.reverse).getD ((d.dry.take (k.toNat * 32 + 32)).drop (k.toNat * 32)) := by unfold readB; rw [if_neg (by rw [h]; decide)]
  unfold readE at h
  split at h
  · contradiction
  · rename_i ha
    obtain ⟨h1, h2⟩ := alive_zero (Decidable.not_not.1 ha)
    split at h
    · contradiction
    · rename_i hf
      obtain ⟨n, rfl, hn⟩ := far_no (Bool.eq_false_iff.2 hf)
      refine ⟨h1, h2, n, rfl, hn, ?_⟩
      rw [hB]; rfl
theorem read_ok {d : Dk} {n : Nat} (h : checkOK d) (hd : d.dead = false) (hn : (n + 1) * 32 ≤ d.dry.length) : readE d n = 0 ∧ readB d n = (lastOf n d.wet.reverse).getD (sec d.dry n) := by
  have he : readE d n = 0 := by unfold readE; rw [if_neg (by rw [alive_of_ok h hd]; decide), if_neg (by rw [far_nat hn]; decide)]
  refine ⟨he, ?_⟩
  unfold readB; rw [if_neg (by rw [he]; decide)]; rfl
theorem placed_len {d : Dk} (h : checkOK d) : ∀ x ∈ d.wet, x.b.length = 32 := fun x hx => (placed_of_ok h x hx).2.2
/-- What a sector reads as. -/
def sees (d : Dk) (n : Nat) : List Int := (lastOf n d.wet.reverse).getD (sec d.dry n)
theorem sees_length {d : Dk} (h : checkOK d) {n : Nat} (hn : (n + 1) * 32 ≤ d.dry.length) : (sees d n).length = 32 := by
  unfold sees
  cases e : lastOf (n : Int) d.wet.reverse with
  | none => exact sec_length hn
  | some b =>
    obtain ⟨x, hx, rfl⟩ := lastOf_mem e
    exact placed_len h x (by simpa using hx)
/-! ### writes -/
theorem write_zero {d : Dk} {k : Int} {b : List Int} (h : writeE d k b = 0) : checkOK d ∧ b.length = 32 ∧ d.dead = false ∧ farD d k = false ∧ d.wet.length ≠ 8192 ∧ d.fuse ≠ 0 ∧
    writeD d k b = { dry := d.dry, wet := d.wet ++ [⟨k, b⟩], fuse := (if d.fuse = -1 then -1 else d.fuse - 1), dead := d.dead } := by
  unfold writeE at h
  split at h
  · rename_i h0
    have hf : d.fuse ≠ 0 := by
      intro e
      unfold deedE at h
      rw [if_pos e] at h
      cases h
    have hD : writeD d k b = { dry := d.dry, wet := d.wet ++ [⟨k, b⟩], fuse := (if d.fuse = -1 then -1 else d.fuse - 1), dead := d.dead } := by
      unfold writeD deedD; rw [if_pos h0, if_neg hf]; rfl
    unfold writeE0 at h0
    split at h0
    · cases h0
    · rename_i h1
      have h1' := not_or.1 h1
      obtain ⟨h2, h3⟩ := h1'
      split at h0
      · cases h0
      · rename_i h4
        split at h0
        · cases h0
        · rename_i h5
          split at h0
          · cases h0
          · rename_i h6
            exact ⟨Decidable.not_not.1 h2, by omega, by simpa using h4, by simpa using h5, h6, hf, hD⟩
  · contradiction
theorem ok_wrote {d : Dk} {k : Int} {b : List Int} (h : checkOK d) (hb : b.length = 32) (hf : farD d k = false) (hw : d.wet.length ≠ 8192) (f : Int) (h1 : -1 ≤ f) (h2 : f ≤ 1073741824) (x : Bool) : checkOK ⟨d.dry, d.wet ++ [⟨k, b⟩], f, x⟩ := by
  obtain ⟨k1, k2, k3, k4, k5, k6, k7⟩ := h
  refine ⟨k1, k2, k3, by simp; omega, ?_, h1, h2⟩
  rw [List.any_append]
  have : oddD ⟨d.dry, d.wet ++ [⟨k, b⟩], f, x⟩ = oddD d := rfl
  rw [this, k5]
  simp [oddD, hf, hb]
theorem write_ok {d : Dk} {k : Int} {b : List Int} (h : writeE d k b = 0) : checkOK (writeD d k b) ∧ (writeD d k b).dead = false := by
  obtain ⟨h1, h2, h3, h4, h5, h6, h7⟩ := write_zero h
  rw [h7]
  refine ⟨ok_wrote h1 h2 h4 h5 _ ?_ ?_ _, h3⟩
  all_goals
    have := h1.2.2.2.2.2
    split <;> omega
theorem sees_wrote {d : Dk} {k : Int} {b : List Int} (h : writeE d k b = 0) (n : Nat) : sees (writeD d k b) n = if k = n then b else sees d n := by
  obtain ⟨_, _, _, _, _, _, h7⟩ := write_zero h
  rw [h7]
  unfold sees
  simp only [List.reverse_append, List.reverse_cons, List.reverse_nil, List.nil_append, List.cons_append, lastOf]
  split <;> rfl
theorem wrote_dry {d : Dk} {k : Int} {b : List Int} (h : writeE d k b = 0) : (writeD d k b).dry = d.dry := by rw [(write_zero h).2.2.2.2.2.2]
theorem write_can {d : Dk} {n : Nat} {b : List Int} (h : checkOK d) (hd : d.dead = false) (hb : b.length = 32) (hn : (n + 1) * 32 ≤ d.dry.length) (hw : d.wet.length < 8192) (hf : d.fuse ≠ 0) : writeE d n b = 0 := by
  have h0 : writeE0 d n b.length = 0 := by
    unfold writeE0
    rw [if_neg (by simp [h, hb]), if_neg (by simp [hd]), if_neg (by rw [far_nat hn]; decide), if_neg (by omega)]
  unfold writeE deedE
  rw [if_pos h0, if_neg hf]
/-! ### flushes, crashes -/
theorem flushed_sec {d : Dk} (h : flushE d = 0) {n : Nat} (hn : (n + 1) * 32 ≤ d.dry.length) : sec (flushD d).dry n = sees d n ∧ (flushD d).dry.length = d.dry.length := by
  obtain ⟨h1, h2, h3, h4⟩ := flush_zero h
  rw [h4]
  refine ⟨?_, settled_length h1 _ (fun _ => Nat.le_refl _)⟩
  show sec (settleAt (fun _ => 32) 0 d.wet d.dry) n = _
  rw [sec_settle _ _ _ _ _ (fun x hx => placed_of_ok h1 x hx), settleS_full _ _ _ (fun _ _ _ => rfl) (placed_len h1) (sec_length hn)]
  rfl
theorem sees_flushed {d : Dk} (h : flushE d = 0) {n : Nat} (hn : (n + 1) * 32 ≤ d.dry.length) : sees (flushD d) n = sees d n := by
  have e := (flush_ok h).2.2
  unfold sees at *
  rw [e]
  exact (flushed_sec h hn).1
theorem flush_can {d : Dk} (h : checkOK d) (hd : d.dead = false) (hf : d.fuse ≠ 0) : flushE d = 0 := by
  unfold flushE deedE; rw [if_pos (alive_of_ok h hd), if_neg hf]
theorem crashed_length {d : Dk} (h : checkOK d) (keep : List Int) : (crashD d keep).dry.length = d.dry.length := by
  rw [crash_ok h]; exact settled_length h _ (keepN_le keep)
theorem crashed_sec {d : Dk} (h : checkOK d) (keep : List Int) (n : Nat) : sec (crashD d keep).dry n = settleS (keepN keep) 0 d.wet n (sec d.dry n) := by
  rw [crash_ok h]
  exact sec_settle _ _ _ _ _ (fun x hx => placed_of_ok h x hx)
theorem check_zero {d : Dk} : checkE d = 0 ↔ checkOK d := by unfold checkE; split <;> simp_all
end Go.Proofs.Ytnmgiiaejpaeeaa
/- Journals: how one lies in cells; contracts of Check, Open, Need of package journal and of its reference. -/
namespace Go.Proofs.Ytnmgiiaejpaeeaa
set_option linter.unusedVariables false
set_option linter.unusedSimpArgs false
open Go.RowKit Go.Shelf
structure Lg where
  base : Int
  size : Int
  gen : Int
  pos : Int
  n : Int
def lgV (g : Lg) : List Value := [.int .i64 g.base, .int .i64 g.size, .int .i64 g.gen, .int .i64 g.pos, .int .i64 g.n]
def lg0 : Lg := ⟨0, 0, 0, 0, 0⟩
def lgOK (g : Lg) : Prop := 0 ≤ g.base ∧ g.base < 8192 ∧ 1 ≤ g.size ∧ g.size ≤ 4096 ∧ 1 ≤ g.gen ∧ g.gen ≤ 549755813888 ∧ 0 ≤ g.pos ∧ g.pos ≤ g.size ∧ 0 ≤ g.n ∧ g.n ≤ 262144
instance (g : Lg) : Decidable (lgOK g) := by unfold lgOK; infer_instance
def lcheckE (g : Lg) : Int := if lgOK g then 0 else 1
theorem lcheck0 {g : Lg} (h : lgOK g) : Value.int .i64 0 = .int .i64 (lcheckE g) := by unfold lcheckE; rw [if_pos h]
theorem lcheck1 {g : Lg} (h : ¬ lgOK g) : Value.int .i64 1 = .int .i64 (lcheckE g) := by unfold lcheckE; rw [if_neg h]
def lopenG (b s g : Int) : Lg := if lgOK ⟨b, s, g, 0, 0⟩ then ⟨b, s, g, 0, 0⟩ else lg0
def needN (n : Nat) : Int := if 65536 < n then 0 else max (((n + 10) / 11 : Nat) : Int) 1
def needE (n : Nat) : Int := if 65536 < n then 3 else 0
theorem lgRow : ∃ d, Try.prog.underlying 70 = some d ∧ d.isRow = true ∧ (Try.prog.info? 70).map (·.size) = some 5 := ⟨_, Try.underlying70, rfl, by kernel_rfl⟩
set_option maxRecDepth 100000 in
set_option maxHeartbeats 4000000 in
theorem jcheck_c (m : Mem) (w : World) (hm : m.In w) (g : Lg) :
    Calls Try.prog 63 #[.agg (lgV g).toArray] w (Ret w m fun v _ => v = .int .i64 (lcheckE g)) := by
  have hS := St.start hm
  obtain ⟨b, s, gg, p, n⟩ := g
  simp only [lgV]
  go_enter Try.func63, Try.ntmps63
  go_wp2_with (first
    | ((with_reducible refine' Wl.out ?_; apply wl_box (ty := 70) (y := (.tmp 0)) hS); (· (first | (go_simp; done) | (go_simp; with_reducible rfl))); (· exact rfl); clear hS; intro w1 b1 hS)
    | ((with_reducible refine' Wl.out ?_; apply wl_load hS); (· (first | exact Try.underlying2 | exact Try.underlying3)); (· exact rfl); (· exact rfl); (· (first | (apply Find.box; (· (repeat constructor)); rfl) | exact Find.mem (by assumption) | (apply Find.row; (· (repeat constructor)); assumption))))
    | ((with_reducible refine' Wl.out ?_; apply wg_load hS); (· (first | exact Try.underlying2 | exact Try.underlying3)); (· exact rfl); (· (first | rfl | (go_simp; done))); (· exact rfl); (· (first | (apply Find.box; (· (repeat constructor)); rfl) | exact Find.mem (by assumption) | (apply Find.row; (· (repeat constructor)); assumption))))
    | ((with_reducible refine' Wl.out ?_); (with_reducible refine' wg_case ?_ ?_) <;> (intro hgW; (try (have hg2 := hgW; simp [go_sem] at hg2)); (first | (exfalso; assumption) | ((with_reducible refine' Wl.out ?_; apply wl_unwanted); (· exact hgW)) | ((with_reducible refine' Wl.out ?_; apply wg_load hS); (· (first | exact Try.underlying2 | exact Try.underlying3)); (· exact rfl); (· exact hgW); (· exact rfl); (· (first | (apply Find.box; (· (repeat constructor)); rfl) | exact Find.mem (by assumption) | (apply Find.row; (· (repeat constructor)); assumption))))); clear hgW)))
  all_goals
    go_ret
    first
    | exact ⟨_, m, rfl, lcheck0 (by simp only [lgOK]; omega), hS.done⟩
    | exact ⟨_, m, rfl, lcheck1 (by simp only [lgOK]; omega), hS.done⟩
set_option maxRecDepth 100000 in
set_option maxHeartbeats 4000000 in
theorem rjcheck_c (m : Mem) (w : World) (hm : m.In w) (g : Lg) :
    Calls Try.prog 64 #[.agg (lgV g).toArray] w (Ret w m fun v _ => v = .int .i64 (lcheckE g)) := by
  have hS := St.start hm
  obtain ⟨b, s, gg, p, n⟩ := g
  simp only [lgV]
  go_enter Try.func64, Try.ntmps64
  go_wp2_with (first
    | ((with_reducible refine' Wl.out ?_; apply wl_box (ty := 70) (y := (.tmp 0)) hS); (· (first | (go_simp; done) | (go_simp; with_reducible rfl))); (· exact rfl); clear hS; intro w1 b1 hS)
    | ((with_reducible refine' Wl.out ?_; apply wl_load hS); (· (first | exact Try.underlying2 | exact Try.underlying3)); (· exact rfl); (· exact rfl); (· (first | (apply Find.box; (· (repeat constructor)); rfl) | exact Find.mem (by assumption) | (apply Find.row; (· (repeat constructor)); assumption))))
    | ((with_reducible refine' Wl.out ?_; apply wg_load hS); (· (first | exact Try.underlying2 | exact Try.underlying3)); (· exact rfl); (· (first | rfl | (go_simp; done))); (· exact rfl); (· (first | (apply Find.box; (· (repeat constructor)); rfl) | exact Find.mem (by assumption) | (apply Find.row; (· (repeat constructor)); assumption))))
    | ((with_reducible refine' Wl.out ?_); (with_reducible refine' wg_case ?_ ?_) <;> (intro hgW; (try (have hg2 := hgW; simp [go_sem] at hg2)); (first | (exfalso; assumption) | ((with_reducible refine' Wl.out ?_; apply wl_unwanted); (· exact hgW)) | ((with_reducible refine' Wl.out ?_; apply wg_load hS); (· (first | exact Try.underlying2 | exact Try.underlying3)); (· exact rfl); (· exact hgW); (· exact rfl); (· (first | (apply Find.box; (· (repeat constructor)); rfl) | exact Find.mem (by assumption) | (apply Find.row; (· (repeat constructor)); assumption))))); clear hgW)))
  all_goals
    go_ret
    first
    | exact ⟨_, m, rfl, lcheck0 (by simp only [lgOK]; omega), hS.done⟩
    | exact ⟨_, m, rfl, lcheck1 (by simp only [lgOK]; omega), hS.done⟩
/-- A journal, and an error, are handed back. -/
def RetLE (w : World) (m : Mem) (g : Lg) (e : Int) : Ending → World → Prop := Ret w m fun v _ => v = .tuple #[.agg (lgV g).toArray, .int .i64 e]
theorem lopen_ok {b s g : Int} (h : lgOK ⟨b, s, g, 0, 0⟩) : lopenG b s g = ⟨b, s, g, 0, 0⟩ := if_pos h
theorem lopen_no {b s g : Int} (h : ¬ lgOK ⟨b, s, g, 0, 0⟩) : lopenG b s g = lg0 := if_neg h
set_option maxRecDepth 100000 in
set_option maxHeartbeats 4000000 in
theorem jopen_c (m : Mem) (w : World) (hm : m.In w) (b s g : Int) :
    Calls Try.prog 60 #[.int .i64 b, .int .i64 s, .int .i64 g] w (RetLE w m (lopenG b s g) (lcheckE ⟨b, s, g, 0, 0⟩)) := by
  have hS := St.start hm
  have ways : (lgOK ⟨b, s, g, 0, 0⟩ ∧ lcheckE ⟨b, s, g, 0, 0⟩ = 0) ∨ (¬ lgOK ⟨b, s, g, 0, 0⟩ ∧ lcheckE ⟨b, s, g, 0, 0⟩ = 1) := by
    unfold lcheckE; by_cases h : lgOK ⟨b, s, g, 0, 0⟩ <;> simp [h]
  rcases ways with ⟨h, hE⟩ | ⟨h, hE⟩
  all_goals
    have H := Lib.hid h
    have HE := Lib.hid hE
    clear h hE
    go_enter Try.func60, Try.ntmps60
    go_wp2_with (first
    | ((with_reducible refine' Wl.out ?_; apply wl_alloc (ty := 70) (dst := some 6) hS (.agg #[.int .i64 0, .int .i64 0, .int .i64 0, .int .i64 0, .int .i64 0]) [.int .i64 0, .int .i64 0, .int .i64 0, .int .i64 0, .int .i64 0]); (· kernel_rfl); (· rfl); clear hS; intro w6 b6 hS)
    | ((with_reducible refine' Wl.out ?_; apply wl_alloc (ty := 70) (dst := some 8) hS (.agg #[.int .i64 0, .int .i64 0, .int .i64 0, .int .i64 0, .int .i64 0]) [.int .i64 0, .int .i64 0, .int .i64 0, .int .i64 0, .int .i64 0]); (· kernel_rfl); (· rfl); clear hS; intro w8 b8 hS)
    | ((with_reducible refine' Wl.out ?_; apply wl_loads hS); (· (first | exact rowT70)); (· exact rfl); (· (first | (apply Finds.box; (· (repeat constructor)); (· (repeat constructor)); done) | (refine Finds.mem2 (by assumption) ?_; first | rfl | assumption | (simp; done)) | (apply Finds.row; (· (repeat constructor)); (· assumption); (· rfl)))))
    | ((with_reducible refine' Wl.out ?_; apply wg_loads hS); (· (first | exact rowT70)); (· (first | rfl | (go_simp; done))); (· exact rfl); (· (first | (apply Finds.box; (· (repeat constructor)); (· (repeat constructor)); done) | (refine Finds.mem2 (by assumption) ?_; first | rfl | assumption | (simp; done)) | (apply Finds.row; (· (repeat constructor)); (· assumption); (· rfl)))))
    | ((with_reducible refine' Wl.out ?_; apply wl_stores hS); (· (first | exact rowT70)); (· exact rfl); (· exact rfl); (· exact rfl); (· (first | assumption | (simp [Value.oneCell']; done))); (· (repeat constructor)); (· (repeat constructor)); (· (repeat constructor)); clear hS; intro ws hS)
      | (go_at_call 63; refine (jcheck_c _ _ hS.inw ⟨b, s, g, 0, 0⟩).mono ?_; rintro e' w15 ⟨_, m15, rfl, rfl, hk⟩; rw [HE.out]; replace hS := hS.call hk; clear hk))
    refine ret_cell_tmp (n := 5) rfl rfl hS (by (repeat constructor)) (by rfl) lgRow rfl ?_
    rw [HE.out]
    first
    | (rw [lopen_ok H.out]; exact ⟨_, m15, rfl, rfl, hS.done⟩)
    | (rw [lopen_no H.out]; exact ⟨_, m15, rfl, rfl, hS.done⟩)
set_option maxRecDepth 100000 in
set_option maxHeartbeats 4000000 in
theorem rjopen_c (m : Mem) (w : World) (hm : m.In w) (b s g : Int) :
    Calls Try.prog 61 #[.int .i64 b, .int .i64 s, .int .i64 g] w (RetLE w m (lopenG b s g) (lcheckE ⟨b, s, g, 0, 0⟩)) := by
  have hS := St.start hm
  have ways : (lgOK ⟨b, s, g, 0, 0⟩ ∧ lcheckE ⟨b, s, g, 0, 0⟩ = 0) ∨ (¬ lgOK ⟨b, s, g, 0, 0⟩ ∧ lcheckE ⟨b, s, g, 0, 0⟩ = 1) := by
    unfold lcheckE; by_cases h : lgOK ⟨b, s, g, 0, 0⟩ <;> simp [h]
  rcases ways with ⟨h, hE⟩ | ⟨h, hE⟩
  all_goals
    have H := Lib.hid h
    have HE := Lib.hid hE
    clear h hE
    go_enter Try.func61, Try.ntmps61
    go_wp2_with (first
    | ((with_reducible refine' Wl.out ?_; apply wl_alloc (ty := 70) (dst := some 6) hS (.agg #[.int .i64 0, .int .i64 0, .int .i64 0, .int .i64 0, .int .i64 0]) [.int .i64 0, .int .i64 0, .int .i64 0, .int .i64 0, .int .i64 0]); (· kernel_rfl); (· rfl); clear hS; intro w6 b6 hS)
    | ((with_reducible refine' Wl.out ?_; apply wl_alloc (ty := 70) (dst := some 8) hS (.agg #[.int .i64 0, .int .i64 0, .int .i64 0, .int .i64 0, .int .i64 0]) [.int .i64 0, .int .i64 0, .int .i64 0, .int .i64 0, .int .i64 0]); (· kernel_rfl); (· rfl); clear hS; intro w8 b8 hS)
    | ((with_reducible refine' Wl.out ?_; apply wl_loads hS); (· (first | exact rowT70)); (· exact rfl); (· (first | (apply Finds.box; (· (repeat constructor)); (· (repeat constructor)); done) | (refine Finds.mem2 (by assumption) ?_; first | rfl | assumption | (simp; done)) | (apply Finds.row; (· (repeat constructor)); (· assumption); (· rfl)))))
    | ((with_reducible refine' Wl.out ?_; apply wg_loads hS); (· (first | exact rowT70)); (· (first | rfl | (go_simp; done))); (· exact rfl); (· (first | (apply Finds.box; (· (repeat constructor)); (· (repeat constructor)); done) | (refine Finds.mem2 (by assumption) ?_; first | rfl | assumption | (simp; done)) | (apply Finds.row; (· (repeat constructor)); (· assumption); (· rfl)))))
    | ((with_reducible refine' Wl.out ?_; apply wl_stores hS); (· (first | exact rowT70)); (· exact rfl); (· exact rfl); (· exact rfl); (· (first | assumption | (simp [Value.oneCell']; done))); (· (repeat constructor)); (· (repeat constructor)); (· (repeat constructor)); clear hS; intro ws hS)
      | (go_at_call 64; refine (rjcheck_c _ _ hS.inw ⟨b, s, g, 0, 0⟩).mono ?_; rintro e' w15 ⟨_, m15, rfl, rfl, hk⟩; rw [HE.out]; replace hS := hS.call hk; clear hk))
    refine ret_cell_tmp (n := 5) rfl rfl hS (by (repeat constructor)) (by rfl) lgRow rfl ?_
    rw [HE.out]
    first
    | (rw [lopen_ok H.out]; exact ⟨_, m15, rfl, rfl, hS.done⟩)
    | (rw [lopen_no H.out]; exact ⟨_, m15, rfl, rfl, hS.done⟩)
theorem need_ok {n : Nat} (h : ¬ 65536 < n) : needN n = max (((n + 10) / 11 : Nat) : Int) 1 ∧ needE n = 0 := by
  unfold needN needE; rw [if_neg h, if_neg h]; exact ⟨rfl, rfl⟩
theorem need_no {n : Nat} (h : 65536 < n) : needN n = 0 ∧ needE n = 3 := by
  unfold needN needE; rw [if_pos h, if_pos h]; exact ⟨rfl, rfl⟩
set_option maxRecDepth 100000 in
set_option maxHeartbeats 4000000 in
theorem jneed_c (m : Mem) (w : World) (hm : m.In w) (p : Option Addr) (n c : Nat) (hn : n ≤ 140737488355328) :
    Calls Try.prog 58 #[.slice p n c] w (Ret w m fun v _ => v = .tuple #[.int .i64 (needN n), .int .i64 (needE n)]) := by
  have hS := St.start hm
  go_enter Try.func58, Try.ntmps58
  go_wp2_with fail
  · have hh : 65536 < n := by omega
    go_ret2
    exact ⟨_, m, rfl, by rw [(need_no hh).1, (need_no hh).2]; rfl, hS.done⟩
  · have hh : ¬ 65536 < n := by omega
    go_ret2
    refine ⟨_, m, rfl, ?_, hS.done⟩
    rw [(need_ok hh).1, (need_ok hh).2]
    simp
    rw [show ((n : Int) + 11 - 1) = n + 10 by omega]
set_option maxRecDepth 100000 in
set_option maxHeartbeats 4000000 in
theorem rjneed_c (m : Mem) (w : World) (hm : m.In w) (p : Option Addr) (n c : Nat) (hn : n ≤ 140737488355328) :
    Calls Try.prog 59 #[.slice p n c] w (Ret w m fun v _ => v = .tuple #[.int .i64 (needN n), .int .i64 (needE n)]) := by
  have hS := St.start hm
  go_enter Try.func59, Try.ntmps59
  go_wp2_with fail
  · have hh : 65536 < n := by omega
    go_ret2
    exact ⟨_, m, rfl, by rw [(need_no hh).1, (need_no hh).2]; rfl, hS.done⟩
  · have hh : ¬ 65536 < n := by omega
    go_ret2
    refine ⟨_, m, rfl, ?_, hS.done⟩
    rw [(need_ok hh).1, (need_ok hh).2]
    simp
/-! ### Letters -/
section
variable {P : Program} {f : FuncId} {args : Array Value} {w : World} {m : Mem}
theorem letII {x y : Int} (h : Calls P f args w (Ret w m fun v _ => v = .tuple #[.int .i64 x, .int .i64 y])) : Calls P f args w (Ret w m fun v _ => ∃ x' y', Hid (x' = x) ∧ Hid (y' = y) ∧ v = .tuple #[.int .i64 x', .int .i64 y']) :=
  h.mono fun e w' ⟨v, m', h1, h2, h3⟩ => ⟨v, m', h1, ⟨x, y, rfl, rfl, h2⟩, h3⟩
theorem letLE {g : Lg} {e : Int} (h : Calls P f args w (RetLE w m g e)) : Calls P f args w (Ret w m fun v _ => ∃ g' e', Hid (g' = g) ∧ Hid (e' = e) ∧ v = .tuple #[.agg ([.int .i64 g'.base, .int .i64 g'.size, .int .i64 g'.gen, .int .i64 g'.pos, .int .i64 g'.n] : List Value).toArray, .int .i64 e']) :=
  h.mono fun en w' ⟨v, m', h1, h2, h3⟩ => ⟨v, m', h1, ⟨g, e, rfl, rfl, h2⟩, h3⟩
end
theorem jcheck_v (m : Mem) (w : World) (hm : m.In w) (b s g p n : Int) :
    Calls Try.prog 63 #[.agg ([.int .i64 b, .int .i64 s, .int .i64 g, .int .i64 p, .int .i64 n] : List Value).toArray] w (Ret w m fun v _ => v = .int .i64 (lcheckE ⟨b, s, g, p, n⟩)) := jcheck_c m w hm ⟨b, s, g, p, n⟩
theorem rjcheck_v (m : Mem) (w : World) (hm : m.In w) (b s g p n : Int) :
    Calls Try.prog 64 #[.agg ([.int .i64 b, .int .i64 s, .int .i64 g, .int .i64 p, .int .i64 n] : List Value).toArray] w (Ret w m fun v _ => v = .int .i64 (lcheckE ⟨b, s, g, p, n⟩)) := rjcheck_c m w hm ⟨b, s, g, p, n⟩
theorem lcheck_zero {g : Lg} : lcheckE g = 0 ↔ lgOK g := by unfold lcheckE; split <;> simp_all
end Go.Proofs.Ytnmgiiaejpaeeaa
/- Journals: contracts of there, of package journal and of its reference. -/
namespace Go.Proofs.Ytnmgiiaejpaeeaa
set_option linter.unusedVariables false
set_option linter.unusedSimpArgs false
open Go.RowKit Go.Shelf
def thereB (d : Dk) (g : Lg) : Bool := decide (checkOK d ∧ lgOK g ∧ g.base + g.size ≤ (d.dry.length : Int) / 32)
theorem there_yes {d : Dk} {g : Lg} (h1 : checkOK d) (h2 : lgOK g) (h3 : g.base + g.size ≤ (d.dry.length : Int) / 32) : thereB d g = true := decide_eq_true ⟨h1, h2, h3⟩
theorem there_no {d : Dk} {g : Lg} (h : ¬ (checkOK d ∧ lgOK g ∧ g.base + g.size ≤ (d.dry.length : Int) / 32)) : thereB d g = false := decide_eq_false h
set_option maxRecDepth 100000 in
set_option maxHeartbeats 4000000 in
theorem there_c (m : Mem) (w : World) (hm : m.In w) (cs : List Value) (d : Dk) (h : dkL.rd m cs d) (b s g p n : Int) :
    Calls Try.prog 87 #[.agg cs.toArray, .agg ([.int .i64 b, .int .i64 s, .int .i64 g, .int .i64 p, .int .i64 n] : List Value).toArray] w (Ret w m fun v _ => v = .bool (thereB d ⟨b, s, g, p, n⟩)) := by
  obtain ⟨p0, c0, q0, a0, rfl, A0⟩ := dkL_cells h
  have hS := St.start hm
  have hl := (ok_big (d := d))
  clear h
  by_cases hd : checkOK d
  · have HD := Lib.hid hd
    have hlen : d.dry.length ≤ 262144 := hd.2.1
    have CE : Hid (checkE d = 0) := check_zero.2 hd
    clear hd
    by_cases hg : lgOK ⟨b, s, g, p, n⟩
    · have HG := Lib.hid hg
      have GE : Hid (lcheckE ⟨b, s, g, p, n⟩ = 0) := lcheck_zero.2 hg
      obtain ⟨g1, g2, g3, g4, _⟩ := hg
      simp only at g1 g2 g3 g4
      clear hl
      go_enter Try.func87, Try.ntmps87
      go_wp2_with (first
    | ((with_reducible refine' Wl.out ?_; apply wl_box (ty := 44) (y := (.tmp 0)) hS); (· (first | (go_simp; done) | (go_simp; with_reducible rfl))); (· exact rfl); clear hS; intro w2 b2 hS)
    | ((with_reducible refine' Wl.out ?_; apply wl_box (ty := 70) (y := (.tmp 1)) hS); (· (first | (go_simp; done) | (go_simp; with_reducible rfl))); (· exact rfl); clear hS; intro w3 b3 hS)
    | ((with_reducible refine' Wl.out ?_; apply wl_load hS); (· (first | exact Try.underlying3 | exact Try.underlying22)); (· exact rfl); (· exact rfl); (· (first | (apply Find.box; (· (repeat constructor)); rfl) | exact Find.mem (by assumption) | (apply Find.row; (· (repeat constructor)); assumption))))
    | ((with_reducible refine' Wl.out ?_; apply wg_load hS); (· (first | exact Try.underlying3 | exact Try.underlying22)); (· exact rfl); (· (first | rfl | (go_simp; done))); (· exact rfl); (· (first | (apply Find.box; (· (repeat constructor)); rfl) | exact Find.mem (by assumption) | (apply Find.row; (· (repeat constructor)); assumption))))
    | ((with_reducible refine' Wl.out ?_; apply wl_loads hS); (· (first | exact rowT44 | exact rowT70)); (· exact rfl); (· (first | (apply Finds.box; (· (repeat constructor)); (· (repeat constructor)); done) | (refine Finds.mem2 (by assumption) ?_; first | rfl | assumption | (simp; done)) | (apply Finds.row; (· (repeat constructor)); (· assumption); (· rfl)))))
    | ((with_reducible refine' Wl.out ?_; apply wg_loads hS); (· (first | exact rowT44 | exact rowT70)); (· (first | rfl | (go_simp; done))); (· exact rfl); (· (first | (apply Finds.box; (· (repeat constructor)); (· (repeat constructor)); done) | (refine Finds.mem2 (by assumption) ?_; first | rfl | assumption | (simp; done)) | (apply Finds.row; (· (repeat constructor)); (· assumption); (· rfl)))))
    | ((with_reducible refine' Wl.out ?_); (with_reducible refine' wg_case ?_ ?_) <;> (intro hgW; (try (have hg2 := hgW; simp [go_sem] at hg2)); (first | (exfalso; assumption) | ((with_reducible refine' Wl.out ?_; apply wl_unwanted); (· exact hgW)) | ((with_reducible refine' Wl.out ?_; apply wg_load hS); (· (first | exact Try.underlying3 | exact Try.underlying22)); (· exact rfl); (· exact hgW); (· exact rfl); (· (first | (apply Find.box; (· (repeat constructor)); rfl) | exact Find.mem (by assumption) | (apply Find.row; (· (repeat constructor)); assumption)))) | ((with_reducible refine' Wl.out ?_; apply wg_loads hS); (· (first | exact rowT44 | exact rowT70)); (· exact hgW); (· exact rfl); (· (first | (apply Finds.box; (· (repeat constructor)); (· (repeat constructor)); done) | (refine Finds.mem2 (by assumption) ?_; first | rfl | assumption | (simp; done)) | (apply Finds.row; (· (repeat constructor)); (· assumption); (· rfl)))))); clear hgW))
    | (go_at_call 40; (fail_if_success (clear Mk6)); refine (letInt (check_c _ _ hS.inw _ _ (by first | exact A0.out | exact dkL_dry A0.out | exact Lay.nil_rd _ _))).mono ?_; rintro e' w6 ⟨_, m6, rfl, ⟨E6, HE6, rfl⟩, hk⟩; replace hS := hS.call hk; (try replace A0 := Lib.hid (Lay.mono _ hk.le A0.out)); clear hk; replace HE6 := Lib.hid (HE6.out.trans CE.out); obtain rfl := HE6.out; have Mk6 := True.intro)
    | (go_at_call 63; (fail_if_success (clear Mk10)); refine (letInt (jcheck_v _ _ hS.inw _ _ _ _ _)).mono ?_; rintro e' w10 ⟨_, m10, rfl, ⟨E10, HE10, rfl⟩, hk⟩; replace hS := hS.call hk; (try replace A0 := Lib.hid (Lay.mono _ hk.le A0.out)); clear hk; replace HE10 := Lib.hid (HE10.out.trans GE.out); obtain rfl := HE10.out; have Mk10 := True.intro))
      all_goals
        go_ret
        refine ⟨_, _, rfl, ?_, hS.done⟩
        unfold thereB
        simp [HD.out, HG.out]
    · have GE : Hid (lcheckE ⟨b, s, g, p, n⟩ = 1) := if_neg hg
      have HG := Lib.hid hg
      clear hg hl
      go_enter Try.func87, Try.ntmps87
      go_wp2_with (first
    | ((with_reducible refine' Wl.out ?_; apply wl_box (ty := 44) (y := (.tmp 0)) hS); (· (first | (go_simp; done) | (go_simp; with_reducible rfl))); (· exact rfl); clear hS; intro w2 b2 hS)
    | ((with_reducible refine' Wl.out ?_; apply wl_box (ty := 70) (y := (.tmp 1)) hS); (· (first | (go_simp; done) | (go_simp; with_reducible rfl))); (· exact rfl); clear hS; intro w3 b3 hS)
    | ((with_reducible refine' Wl.out ?_; apply wl_load hS); (· (first | exact Try.underlying3 | exact Try.underlying22)); (· exact rfl); (· exact rfl); (· (first | (apply Find.box; (· (repeat constructor)); rfl) | exact Find.mem (by assumption) | (apply Find.row; (· (repeat constructor)); assumption))))
    | ((with_reducible refine' Wl.out ?_; apply wg_load hS); (· (first | exact Try.underlying3 | exact Try.underlying22)); (· exact rfl); (· (first | rfl | (go_simp; done))); (· exact rfl); (· (first | (apply Find.box; (· (repeat constructor)); rfl) | exact Find.mem (by assumption) | (apply Find.row; (· (repeat constructor)); assumption))))
    | ((with_reducible refine' Wl.out ?_; apply wl_loads hS); (· (first | exact rowT44 | exact rowT70)); (· exact rfl); (· (first | (apply Finds.box; (· (repeat constructor)); (· (repeat constructor)); done) | (refine Finds.mem2 (by assumption) ?_; first | rfl | assumption | (simp; done)) | (apply Finds.row; (· (repeat constructor)); (· assumption); (· rfl)))))
    | ((with_reducible refine' Wl.out ?_; apply wg_loads hS); (· (first | exact rowT44 | exact rowT70)); (· (first | rfl | (go_simp; done))); (· exact rfl); (· (first | (apply Finds.box; (· (repeat constructor)); (· (repeat constructor)); done) | (refine Finds.mem2 (by assumption) ?_; first | rfl | assumption | (simp; done)) | (apply Finds.row; (· (repeat constructor)); (· assumption); (· rfl)))))
    | ((with_reducible refine' Wl.out ?_); (with_reducible refine' wg_case ?_ ?_) <;> (intro hgW; (try (have hg2 := hgW; simp [go_sem] at hg2)); (first | (exfalso; assumption) | ((with_reducible refine' Wl.out ?_; apply wl_unwanted); (· exact hgW)) | ((with_reducible refine' Wl.out ?_; apply wg_load hS); (· (first | exact Try.underlying3 | exact Try.underlying22)); (· exact rfl); (· exact hgW); (· exact rfl); (· (first | (apply Find.box; (· (repeat constructor)); rfl) | exact Find.mem (by assumption) | (apply Find.row; (· (repeat constructor)); assumption)))) | ((with_reducible refine' Wl.out ?_; apply wg_loads hS); (· (first | exact rowT44 | exact rowT70)); (· exact hgW); (· exact rfl); (· (first | (apply Finds.box; (· (repeat constructor)); (· (repeat constructor)); done) | (refine Finds.mem2 (by assumption) ?_; first | rfl | assumption | (simp; done)) | (apply Finds.row; (· (repeat constructor)); (· assumption); (· rfl)))))); clear hgW))
    | (go_at_call 40; (fail_if_success (clear Mk6)); refine (letInt (check_c _ _ hS.inw _ _ (by first | exact A0.out | exact dkL_dry A0.out | exact Lay.nil_rd _ _))).mono ?_; rintro e' w6 ⟨_, m6, rfl, ⟨E6, HE6, rfl⟩, hk⟩; replace hS := hS.call hk; (try replace A0 := Lib.hid (Lay.mono _ hk.le A0.out)); clear hk; replace HE6 := Lib.hid (HE6.out.trans CE.out); obtain rfl := HE6.out; have Mk6 := True.intro)
    | (go_at_call 63; (fail_if_success (clear Mk10)); refine (letInt (jcheck_v _ _ hS.inw _ _ _ _ _)).mono ?_; rintro e' w10 ⟨_, m10, rfl, ⟨E10, HE10, rfl⟩, hk⟩; replace hS := hS.call hk; (try replace A0 := Lib.hid (Lay.mono _ hk.le A0.out)); clear hk; replace HE10 := Lib.hid (HE10.out.trans GE.out); obtain rfl := HE10.out; have Mk10 := True.intro))
      all_goals
        go_ret
        refine ⟨_, _, rfl, ?_, hS.done⟩
        rw [there_no (fun hh => HG.out hh.2.1)]; rfl
  · have CE : Hid (checkE d = 1) := if_neg hd
    have HD := Lib.hid hd
    clear hd hl
    go_enter Try.func87, Try.ntmps87
    go_wp2_with (first
    | ((with_reducible refine' Wl.out ?_; apply wl_box (ty := 44) (y := (.tmp 0)) hS); (· (first | (go_simp; done) | (go_simp; with_reducible rfl))); (· exact rfl); clear hS; intro w2 b2 hS)
    | ((with_reducible refine' Wl.out ?_; apply wl_box (ty := 70) (y := (.tmp 1)) hS); (· (first | (go_simp; done) | (go_simp; with_reducible rfl))); (· exact rfl); clear hS; intro w3 b3 hS)
    | ((with_reducible refine' Wl.out ?_; apply wl_load hS); (· (first | exact Try.underlying3 | exact Try.underlying22)); (· exact rfl); (· exact rfl); (· (first | (apply Find.box; (· (repeat constructor)); rfl) | exact Find.mem (by assumption) | (apply Find.row; (· (repeat constructor)); assumption))))
    | ((with_reducible refine' Wl.out ?_; apply wg_load hS); (· (first | exact Try.underlying3 | exact Try.underlying22)); (· exact rfl); (· (first | rfl | (go_simp; done))); (· exact rfl); (· (first | (apply Find.box; (· (repeat constructor)); rfl) | exact Find.mem (by assumption) | (apply Find.row; (· (repeat constructor)); assumption))))
    | ((with_reducible refine' Wl.out ?_; apply wl_loads hS); (· (first | exact rowT44 | exact rowT70)); (· exact rfl); (· (first | (apply Finds.box; (· (repeat constructor)); (· (repeat constructor)); done) | (refine Finds.mem2 (by assumption) ?_; first | rfl | assumption | (simp; done)) | (apply Finds.row; (· (repeat constructor)); (· assumption); (· rfl)))))
    | ((with_reducible refine' Wl.out ?_; apply wg_loads hS); (· (first | exact rowT44 | exact rowT70)); (· (first | rfl | (go_simp; done))); (· exact rfl); (· (first | (apply Finds.box; (· (repeat constructor)); (· (repeat constructor)); done) | (refine Finds.mem2 (by assumption) ?_; first | rfl | assumption | (simp; done)) | (apply Finds.row; (· (repeat constructor)); (· assumption); (· rfl)))))
    | ((with_reducible refine' Wl.out ?_); (with_reducible refine' wg_case ?_ ?_) <;> (intro hgW; (try (have hg2 := hgW; simp [go_sem] at hg2)); (first | (exfalso; assumption) | ((with_reducible refine' Wl.out ?_; apply wl_unwanted); (· exact hgW)) | ((with_reducible refine' Wl.out ?_; apply wg_load hS); (· (first | exact Try.underlying3 | exact Try.underlying22)); (· exact rfl); (· exact hgW); (· exact rfl); (· (first | (apply Find.box; (· (repeat constructor)); rfl) | exact Find.mem (by assumption) | (apply Find.row; (· (repeat constructor)); assumption)))) | ((with_reducible refine' Wl.out ?_; apply wg_loads hS); (· (first | exact rowT44 | exact rowT70)); (· exact hgW); (· exact rfl); (· (first | (apply Finds.box; (· (repeat constructor)); (· (repeat constructor)); done) | (refine Finds.mem2 (by assumption) ?_; first | rfl | assumption | (simp; done)) | (apply Finds.row; (· (repeat constructor)); (· assumption); (· rfl)))))); clear hgW))
    | (go_at_call 40; (fail_if_success (clear Mk6)); refine (letInt (check_c _ _ hS.inw _ _ (by first | exact A0.out | exact dkL_dry A0.out | exact Lay.nil_rd _ _))).mono ?_; rintro e' w6 ⟨_, m6, rfl, ⟨E6, HE6, rfl⟩, hk⟩; replace hS := hS.call hk; (try replace A0 := Lib.hid (Lay.mono _ hk.le A0.out)); clear hk; replace HE6 := Lib.hid (HE6.out.trans CE.out); obtain rfl := HE6.out; have Mk6 := True.intro)
    | (go_at_call 63; (fail_if_success (clear Mk10)); refine (letInt (jcheck_v _ _ hS.inw _ _ _ _ _)).mono ?_; rintro e' w10 ⟨_, m10, rfl, ⟨E10, HE10, rfl⟩, hk⟩; replace hS := hS.call hk; (try replace A0 := Lib.hid (Lay.mono _ hk.le A0.out)); clear hk; replace HE10 := Lib.hid (HE10.out.trans GE.out); obtain rfl := HE10.out; have Mk10 := True.intro))
    all_goals
      go_ret
      refine ⟨_, _, rfl, ?_, hS.done⟩
      rw [there_no (fun hh => HD.out hh.1)]; rfl
set_option maxRecDepth 100000 in
set_option maxHeartbeats 4000000 in
theorem rthere_c (m : Mem) (w : World) (hm : m.In w) (cs : List Value) (d : Dk) (h : dkL.rd m cs d) (b s g p n : Int) :
    Calls Try.prog 89 #[.agg cs.toArray, .agg ([.int .i64 b, .int .i64 s, .int .i64 g, .int .i64 p, .int .i64 n] : List Value).toArray] w (Ret w m fun v _ => v = .bool (thereB d ⟨b, s, g, p, n⟩)) := by
  obtain ⟨p0, c0, q0, a0, rfl, A0⟩ := dkL_cells h
  have hS := St.start hm
  have hl := (ok_big (d := d))
  clear h
  by_cases hd : checkOK d
  · have HD := Lib.hid hd
    have hlen : d.dry.length ≤ 262144 := hd.2.1
    have CE : Hid (checkE d = 0) := check_zero.2 hd
    clear hd
    by_cases hg : lgOK ⟨b, s, g, p, n⟩
    · have HG := Lib.hid hg
      have GE : Hid (lcheckE ⟨b, s, g, p, n⟩ = 0) := lcheck_zero.2 hg
      obtain ⟨g1, g2, g3, g4, _⟩ := hg
      simp only at g1 g2 g3 g4
      clear hl
      go_enter Try.func89, Try.ntmps89
      go_wp2_with (first
    | ((with_reducible refine' Wl.out ?_; apply wl_box (ty := 44) (y := (.tmp 0)) hS); (· (first | (go_simp; done) | (go_simp; with_reducible rfl))); (· exact rfl); clear hS; intro w2 b2 hS)
    | ((with_reducible refine' Wl.out ?_; apply wl_box (ty := 70) (y := (.tmp 1)) hS); (· (first | (go_simp; done) | (go_simp; with_reducible rfl))); (· exact rfl); clear hS; intro w3 b3 hS)
    | ((with_reducible refine' Wl.out ?_; apply wl_load hS); (· (first | exact Try.underlying3 | exact Try.underlying22)); (· exact rfl); (· exact rfl); (· (first | (apply Find.box; (· (repeat constructor)); rfl) | exact Find.mem (by assumption) | (apply Find.row; (· (repeat constructor)); assumption))))
    | ((with_reducible refine' Wl.out ?_; apply wg_load hS); (· (first | exact Try.underlying3 | exact Try.underlying22)); (· exact rfl); (· (first | rfl | (go_simp; done))); (· exact rfl); (· (first | (apply Find.box; (· (repeat constructor)); rfl) | exact Find.mem (by assumption) | (apply Find.row; (· (repeat constructor)); assumption))))
    | ((with_reducible refine' Wl.out ?_; apply wl_loads hS); (· (first | exact rowT44 | exact rowT70)); (· exact rfl); (· (first | (apply Finds.box; (· (repeat constructor)); (· (repeat constructor)); done) | (refine Finds.mem2 (by assumption) ?_; first | rfl | assumption | (simp; done)) | (apply Finds.row; (· (repeat constructor)); (· assumption); (· rfl)))))
    | ((with_reducible refine' Wl.out ?_; apply wg_loads hS); (· (first | exact rowT44 | exact rowT70)); (· (first | rfl | (go_simp; done))); (· exact rfl); (· (first | (apply Finds.box; (· (repeat constructor)); (· (repeat constructor)); done) | (refine Finds.mem2 (by assumption) ?_; first | rfl | assumption | (simp; done)) | (apply Finds.row; (· (repeat constructor)); (· assumption); (· rfl)))))
    | ((with_reducible refine' Wl.out ?_); (with_reducible refine' wg_case ?_ ?_) <;> (intro hgW; (try (have hg2 := hgW; simp [go_sem] at hg2)); (first | (exfalso; assumption) | ((with_reducible refine' Wl.out ?_; apply wl_unwanted); (· exact hgW)) | ((with_reducible refine' Wl.out ?_; apply wg_load hS); (· (first | exact Try.underlying3 | exact Try.underlying22)); (· exact rfl); (· exact hgW); (· exact rfl); (· (first | (apply Find.box; (· (repeat constructor)); rfl) | exact Find.mem (by assumption) | (apply Find.row; (· (repeat constructor)); assumption)))) | ((with_reducible refine' Wl.out ?_; apply wg_loads hS); (· (first | exact rowT44 | exact rowT70)); (· exact hgW); (· exact rfl); (· (first | (apply Finds.box; (· (repeat constructor)); (· (repeat constructor)); done) | (refine Finds.mem2 (by assumption) ?_; first | rfl | assumption | (simp; done)) | (apply Finds.row; (· (repeat constructor)); (· assumption); (· rfl)))))); clear hgW))
    | (go_at_call 51; (fail_if_success (clear Mk6)); refine (letInt (rcheck_c _ _ hS.inw _ _ (by first | exact A0.out | exact dkL_dry A0.out | exact Lay.nil_rd _ _))).mono ?_; rintro e' w6 ⟨_, m6, rfl, ⟨E6, HE6, rfl⟩, hk⟩; replace hS := hS.call hk; (try replace A0 := Lib.hid (Lay.mono _ hk.le A0.out)); clear hk; replace HE6 := Lib.hid (HE6.out.trans CE.out); obtain rfl := HE6.out; have Mk6 := True.intro)
    | (go_at_call 64; (fail_if_success (clear Mk10)); refine (letInt (rjcheck_v _ _ hS.inw _ _ _ _ _)).mono ?_; rintro e' w10 ⟨_, m10, rfl, ⟨E10, HE10, rfl⟩, hk⟩; replace hS := hS.call hk; (try replace A0 := Lib.hid (Lay.mono _ hk.le A0.out)); clear hk; replace HE10 := Lib.hid (HE10.out.trans GE.out); obtain rfl := HE10.out; have Mk10 := True.intro))
      all_goals
        go_ret
        refine ⟨_, _, rfl, ?_, hS.done⟩
        unfold thereB
        simp [HD.out, HG.out]
    · have GE : Hid (lcheckE ⟨b, s, g, p, n⟩ = 1) := if_neg hg
      have HG := Lib.hid hg
      clear hg hl
      go_enter Try.func89, Try.ntmps89
      go_wp2_with (first
    | ((with_reducible refine' Wl.out ?_; apply wl_box (ty := 44) (y := (.tmp 0)) hS); (· (first | (go_simp; done) | (go_simp; with_reducible rfl))); (· exact rfl); clear hS; intro w2 b2 hS)
    | ((with_reducible refine' Wl.out ?_; apply wl_box (ty := 70) (y := (.tmp 1)) hS); (· (first | (go_simp; done) | (go_simp; with_reducible rfl))); (· exact rfl); clear hS; intro w3 b3 hS)
    | ((with_reducible refine' Wl.out ?_; apply wl_load hS); (· (first | exact Try.underlying3 | exact Try.underlying22)); (· exact rfl); (· exact rfl); (· (first | (apply Find.box; (· (repeat constructor)); rfl) | exact Find.mem (by assumption) | (apply Find.row; (· (repeat constructor)); assumption))))
    | ((with_reducible refine' Wl.out ?_; apply wg_load hS); (· (first | exact Try.underlying3 | exact Try.underlying22)); (· exact rfl); (· (first | rfl | (go_simp; done))); (· exact rfl); (· (first | (apply Find.box; (· (repeat constructor)); rfl) | exact Find.mem (by assumption) | (apply Find.row; (· (repeat constructor)); assumption))))
    | ((with_reducible refine' Wl.out ?_; apply wl_loads hS); (· (first | exact rowT44 | exact rowT70)); (· exact rfl); (· (first | (apply Finds.box; (· (repeat constructor)); (· (repeat constructor)); done) | (refine Finds.mem2 (by assumption) ?_; first | rfl | assumption | (simp; done)) | (apply Finds.row; (· (repeat constructor)); (· assumption); (· rfl)))))
    | ((with_reducible refine' Wl.out ?_; apply wg_loads hS); (· (first | exact rowT44 | exact rowT70)); (· (first | rfl | (go_simp; done))); (· exact rfl); (· (first | (apply Finds.box; (· (repeat constructor)); (· (repeat constructor)); done) | (refine Finds.mem2 (by assumption) ?_; first | rfl | assumption | (simp; done)) | (apply Finds.row; (· (repeat constructor)); (· assumption); (· rfl)))))
    | ((with_reducible refine' Wl.out ?_); (with_reducible refine' wg_case ?_ ?_) <;> (intro hgW; (try (have hg2 := hgW; simp [go_sem] at hg2)); (first | (exfalso; assumption) | ((with_reducible refine' Wl.out ?_; apply wl_unwanted); (· exact hgW)) | ((with_reducible refine' Wl.out ?_; apply wg_load hS); (· (first | exact Try.underlying3 | exact Try.underlying22)); (· exact rfl); (· exact hgW); (· exact rfl); (· (first | (apply Find.box; (· (repeat constructor)); rfl) | exact Find.mem (by assumption) | (apply Find.row; (· (repeat constructor)); assumption)))) | ((with_reducible refine' Wl.out ?_; apply wg_loads hS); (· (first | exact rowT44 | exact rowT70)); (· exact hgW); (· exact rfl); (· (first | (apply Finds.box; (· (repeat constructor)); (· (repeat constructor)); done) | (refine Finds.mem2 (by assumption) ?_; first | rfl | assumption | (simp; done)) | (apply Finds.row; (· (repeat constructor)); (· assumption); (· rfl)))))); clear hgW))
    | (go_at_call 51; (fail_if_success (clear Mk6)); refine (letInt (rcheck_c _ _ hS.inw _ _ (by first | exact A0.out | exact dkL_dry A0.out | exact Lay.nil_rd _ _))).mono ?_; rintro e' w6 ⟨_, m6, rfl, ⟨E6, HE6, rfl⟩, hk⟩; replace hS := hS.call hk; (try replace A0 := Lib.hid (Lay.mono _ hk.le A0.out)); clear hk; replace HE6 := Lib.hid (HE6.out.trans CE.out); obtain rfl := HE6.out; have Mk6 := True.intro)
    | (go_at_call 64; (fail_if_success (clear Mk10)); refine (letInt (rjcheck_v _ _ hS.inw _ _ _ _ _)).mono ?_; rintro e' w10 ⟨_, m10, rfl, ⟨E10, HE10, rfl⟩, hk⟩; replace hS := hS.call hk; (try replace A0 := Lib.hid (Lay.mono _ hk.le A0.out)); clear hk; replace HE10 := Lib.hid (HE10.out.trans GE.out); obtain rfl := HE10.out; have Mk10 := True.intro))
      all_goals
        go_ret
        refine ⟨_, _, rfl, ?_, hS.done⟩
        rw [there_no (fun hh => HG.out hh.2.1)]; rfl
  · have CE : Hid (checkE d = 1) := if_neg hd
    have HD := Lib.hid hd
    clear hd hl
    go_enter Try.func89, Try.ntmps89
    go_wp2_with (first
    | ((with_reducible refine' Wl.out ?_; apply wl_box (ty := 44) (y := (.tmp 0)) hS); (· (first | (go_simp; done) | (go_simp; with_reducible rfl))); (· exact rfl); clear hS; intro w2 b2 hS)
    | ((with_reducible refine' Wl.out ?_; apply wl_box (ty := 70) (y := (.tmp 1)) hS); (· (first | (go_simp; done) | (go_simp; with_reducible rfl))); (· exact rfl); clear hS; intro w3 b3 hS)
    | ((with_reducible refine' Wl.out ?_; apply wl_load hS); (· (first | exact Try.underlying3 | exact Try.underlying22)); (· exact rfl); (· exact rfl); (· (first | (apply Find.box; (· (repeat constructor)); rfl) | exact Find.mem (by assumption) | (apply Find.row; (· (repeat constructor)); assumption))))
    | ((with_reducible refine' Wl.out ?_; apply wg_load hS); (· (first | exact Try.underlying3 | exact Try.underlying22)); (· exact rfl); (· (first | rfl | (go_simp; done))); (· exact rfl); (· (first | (apply Find.box; (· (repeat constructor)); rfl) | exact Find.mem (by assumption) | (apply Find.row; (· (repeat constructor)); assumption))))
    | ((with_reducible refine' Wl.out ?_; apply wl_loads hS); (· (first | exact rowT44 | exact rowT70)); (· exact rfl); (· (first | (apply Finds.box; (· (repeat constructor)); (· (repeat constructor)); done) | (refine Finds.mem2 (by assumption) ?_; first | rfl | assumption | (simp; done)) | (apply Finds.row; (· (repeat constructor)); (· assumption); (· rfl)))))
    | ((with_reducible refine' Wl.out ?_; apply wg_loads hS); (· (first | exact rowT44 | exact rowT70)); (· (first | rfl | (go_simp; done))); (· exact rfl); (· (first | (apply Finds.box; (· (repeat constructor)); (· (repeat constructor)); done) | (refine Finds.mem2 (by assumption) ?_; first | rfl | assumption | (simp; done)) | (apply Finds.row; (· (repeat constructor)); (· assumption); (· rfl)))))
    | ((with_reducible refine' Wl.out ?_); (with_reducible refine' wg_case ?_ ?_) <;> (intro hgW; (try (have hg2 := hgW; simp [go_sem] at hg2)); (first | (exfalso; assumption) | ((with_reducible refine' Wl.out ?_; apply wl_unwanted); (· exact hgW)) | ((with_reducible refine' Wl.out ?_; apply wg_load hS); (· (first | exact Try.underlying3 | exact Try.underlying22)); (· exact rfl); (· exact hgW); (· exact rfl); (· (first | (apply Find.box; (· (repeat constructor)); rfl) | exact Find.mem (by assumption) | (apply Find.row; (· (repeat constructor)); assumption)))) | ((with_reducible refine' Wl.out ?_; apply wg_loads hS); (· (first | exact rowT44 | exact rowT70)); (· exact hgW); (· exact rfl); (· (first | (apply Finds.box; (· (repeat constructor)); (· (repeat constructor)); done) | (refine Finds.mem2 (by assumption) ?_; first | rfl | assumption | (simp; done)) | (apply Finds.row; (· (repeat constructor)); (· assumption); (· rfl)))))); clear hgW))
    | (go_at_call 51; (fail_if_success (clear Mk6)); refine (letInt (rcheck_c _ _ hS.inw _ _ (by first | exact A0.out | exact dkL_dry A0.out | exact Lay.nil_rd _ _))).mono ?_; rintro e' w6 ⟨_, m6, rfl, ⟨E6, HE6, rfl⟩, hk⟩; replace hS := hS.call hk; (try replace A0 := Lib.hid (Lay.mono _ hk.le A0.out)); clear hk; replace HE6 := Lib.hid (HE6.out.trans CE.out); obtain rfl := HE6.out; have Mk6 := True.intro)
    | (go_at_call 64; (fail_if_success (clear Mk10)); refine (letInt (rjcheck_v _ _ hS.inw _ _ _ _ _)).mono ?_; rintro e' w10 ⟨_, m10, rfl, ⟨E10, HE10, rfl⟩, hk⟩; replace hS := hS.call hk; (try replace A0 := Lib.hid (Lay.mono _ hk.le A0.out)); clear hk; replace HE10 := Lib.hid (HE10.out.trans GE.out); obtain rfl := HE10.out; have Mk10 := True.intro))
    all_goals
      go_ret
      refine ⟨_, _, rfl, ?_, hS.done⟩
      rw [there_no (fun hh => HD.out hh.1)]; rfl
end Go.Proofs.Ytnmgiiaejpaeeaa
/- Stamps over the state of a walk: Seal, Pair, Open, of the program and of the reference. -/
namespace Go.Proofs.Ytnmgiiaejpaeeaa
set_option linter.unusedVariables false
set_option linter.unusedSimpArgs false
open Go.RowKit Go.Shelf
section
variable {ops : Array Oper} {P : Program} {X : List Nat} {w0 w : World} {m0 m : Mem} {es : List Ent} {o : Oper} {a : Act} {K : Act → World → Prop} {Q : Exit → Act → World → Prop}
variable {rest : List Oper} {dst : Option Tmp} {rt : TypeId} {pos : String} {af : Array Edge}
/-- A literal of a slice that is appended to. -/
theorem op_litR (hS : St X w0 m0 w es m) {t e : TypeId} {size bytes : Nat} {z : Value} (hE : Elem P t e size bytes z) (len : Nat) (parts : Array (Nat × Operand)) (ho : o.op = .buildSlice t len parts) (hlen : len * size ≤ 16777216) (hpos : len * size ≠ 0) (cs : List Value)
    (hf : Instr.fill (fun i => some (i * size, size)) ((Array.range (len * size)).map (z.cells[· % z.cells.size]!)) (parts.map fun (i, x) => (i, a.eval x)).toList = some cs.toArray) (hcl : cs.length = len * size) (hm : len ≤ maxLen)
    (h : ∀ w' b, St X w0 m0 w' (.row e size (.slice (some ⟨b, 0, none⟩) len len) len cs :: es) m → K (a.put o.dst (.slice (some ⟨b, 0, none⟩) len len)) w') : o.wp P a w K Q := by
  obtain ⟨ti, ht1, ht2, ht3, ht4⟩ := hE.at
  have hrun : (Instr.buildSlice t len (parts.map fun (i, x) => (i, a.eval x))).run P w = .ok (.slice (some ⟨w.heap.size, 0, none⟩) len len) (w.alloc (.cells cs.toArray e)) := by
    have hn : ¬ (16777216 < len * size) := by omega
    simp only [Instr.buildSlice, Sem.run_bind, run_underlying hE.under, Result.andThen_ok, sizeOf, typeInfo, zeroValue]
    have hf2 : Instr.fill (fun i => some (i * size, size)) (Array.map (fun x => z.cells[x % z.cells.size]!) (Array.range (len * size))) (List.map (fun x => (x.fst, a.eval x.snd)) parts.toList) = some cs.toArray := by simpa using hf
    simp [ht1, ht2, ht3, hn, hpos, newRow, newObj, Sem.run_bind, Sem.run, ← World.alloc_eq]
    rw [hf2]
    rfl
  unfold Oper.wp execOp
  simp only [ho, Sem.run_bind, hrun, Result.andThen_ok, Sem.run_pure]
  refine h _ _ (hS.add _ (grownBy_new _ _) ?_ (fun b hb => ?_))
  · refine ⟨hcl, .inr ⟨w.heap.size, len, cs.toArray, rfl, Nat.zero_le _, heap_alloc_new w _, Nat.le_refl _, hm, by simpa using hcl, ?_⟩⟩
    simp [← hcl]
  · simp [Ent.blk, Value.ownBlock] at hb
    omega
theorem wl_litR {t e : TypeId} {size bytes : Nat} {z : Value} (hE : Elem P t e size bytes z) {len : Nat} {parts : Array (Nat × Operand)} (hS : St X w0 m0 w es m) {cs : List Value} (hlen : len * size ≤ 16777216) (hpos : len * size ≠ 0)
    (hf : Instr.fill (fun i => some (i * size, size)) ((Array.range (len * size)).map (z.cells[· % z.cells.size]!)) (parts.map fun (i, x) => (i, a.eval x)).toList = some cs.toArray) (hcl : cs.length = len * size) (hm : len ≤ maxLen)
    (h : ∀ w' b, St X w0 m0 w' (.row e size (.slice (some ⟨b, 0, none⟩) len len) len cs :: es) m → wpList P ops Q rest (a.put dst (.slice (some ⟨b, 0, none⟩) len len)) w') : Wl P ops Q (⟨dst, .buildSlice t len parts, rt, pos, af, none⟩ :: rest) a w :=
  ⟨wpList_plain rfl fun K hK => op_litR hS hE len parts rfl hlen hpos cs hf hcl hm fun w' b hw => hK _ _ (h w' b hw)⟩
end
/-- New memory is read from now on. -/
theorem fr_ret {w w' : World} {m : Mem} {v : Value} {xs : List Int} (hm : m.In w) (hf : Fr .u8 w.heap.size w' v xs) (hk : ∀ x ∈ xs, InK .u8 x) (hl : xs.length ≤ 140737488355328) (hb : Below w.heap.size w w') : ∃ m', St [] w m w' [] m' ∧ bytesL.rd m' [v] xs := by
  have hS := (St.start hm).grow (grownBy_of_below hb)
  refine ⟨fun a => if w.heap.size ≤ a.block then w'.cell? a else m a, ⟨hS.kept, by simp, .nil, fun a u h => ?_, fun a u h => ?_, fun a u h => ?_⟩, ?_⟩
  · split at h
    · exact ⟨h, by simp⟩
    · exact ⟨hS.inw _ _ h, by simp⟩
  · have := World.block_lt_of_cell? w a (hm _ _ h)
    show (if w.heap.size ≤ a.block then w'.cell? a else m a) = some u
    rw [if_neg (by omega)]
    exact h
  · split at h
    · exact .inr (.inl ‹_›)
    · exact .inl h
  · obtain ⟨p, c, rfl, h1, h2, h3⟩ := hf
    refine ⟨p, c, rfl, h1, h2, by simpa [Lay.int, kBytes] using hl, rowInt hk fun h0 => ?_⟩
    obtain ⟨g, o, e, hg, hc⟩ := h3 h0
    refine ⟨g, o, e, fun i hi => ?_⟩
    show (if w.heap.size ≤ g then w'.cell? _ else m _) = _
    rw [if_pos hg]
    exact (hc i hi).1
theorem bytes_rd {m : Mem} {w : World} {v : Value} {xs : List Int} (hm : m.In w) (h : bytesL.rd m [v] xs) : ∃ p c, v = .slice p xs.length c ∧ xs.length ≤ c ∧ c ≤ maxLen ∧ xs.length ≤ 140737488355328 ∧ Rd .u8 w p xs ∧ IsB xs := by
  obtain ⟨p, c, rfl, h1, h2, h3, h4⟩ := Lay.list_open h
  exact ⟨p, c, rfl, h1, h2, by simpa [Lay.int, kBytes] using h3, h4.rdInt hm, inK_isB h4.inK⟩
theorem sealR_isB {n : Int} {xs : List Int} (h : IsB xs) : IsB (sealR n xs) := by
  unfold sealR
  split
  · unfold sealB
    intro x hx
    simp only [List.mem_append] at hx
    have h8 : ∀ x ∈ le8 n, 0 ≤ x ∧ x < 256 := by
      intro x hx
      simp only [le8, List.mem_cons, List.mem_nil_iff, or_false] at hx
      omega
    rcases hx with hx | hx | hx
    · exact h8 x hx
    · unfold pad16 at hx
      rcases List.mem_append.1 hx with hx | hx
      · exact h x hx
      · rw [(List.mem_replicate.1 hx).2]; omega
    · exact h8 x hx
  · intro x hx; simp at hx
theorem sealR_len {n : Int} {xs : List Int} : (sealR n xs).length ≤ 140737488355328 := by
  unfold sealR
  split
  · rename_i h
    have : xs.length ≤ 16 := by
      unfold sealE at h
      split at h
      · cases h
      · split at h
        · cases h
        · omega
    simp [sealB, le8, pad16]; omega
  · simp
theorem seal_c (m : Mem) (w : World) (hm : m.In w) (n : Int) (vb : Value) (b : List Int) (hb : bytesL.rd m [vb] b) :
    Calls Try.prog 22 #[.int .i64 n, vb] w (RetBE w m (sealR n b) (sealE n b.length)) := by
  obtain ⟨p, c, rfl, h1, h2, h3, h4, h5⟩ := bytes_rd hm hb
  refine (seal_any n p c b w h4 h5 h1 (by omega)).mono ?_
  rintro e w' ⟨v, rfl, hf, hbl⟩
  obtain ⟨m', k1, k2⟩ := fr_ret hm hf (isB_inK (sealR_isB h5)) sealR_len hbl
  exact ⟨_, m', rfl, ⟨_, rfl, k2⟩, k1⟩
theorem rseal_c (m : Mem) (w : World) (hm : m.In w) (n : Int) (vb : Value) (b : List Int) (hb : bytesL.rd m [vb] b) :
    Calls Try.prog 27 #[.int .i64 n, vb] w (RetBE w m (sealR n b) (sealE n b.length)) := by
  obtain ⟨p, c, rfl, h1, h2, h3, h4, h5⟩ := bytes_rd hm hb
  simp only [maxLen] at h2
  refine (ref_seal_any n p c b w h4 h1 (by omega)).mono ?_
  rintro e w' ⟨v, rfl, hf, hbl⟩
  obtain ⟨m', k1, k2⟩ := fr_ret hm hf (isB_inK (sealR_isB h5)) sealR_len hbl
  exact ⟨_, m', rfl, ⟨_, rfl, k2⟩, k1⟩
theorem pair_c (m : Mem) (w : World) (hm : m.In w) (g a : Int) :
    Calls Try.prog 24 #[.int .i64 g, .int .i64 a] w (Ret w m fun v _ => v = .tuple #[.int .i64 (pairV g a), .int .i64 (pairE g a)]) :=
  (pair_any g a w).mono fun e w' ⟨h1, h2⟩ => by subst h2; exact ⟨_, m, h1, rfl, St.start hm⟩
/-- A stamp, octets, and an error, are handed back. -/
def RetOpen (w : World) (m : Mem) (xs : List Int) : Ending → World → Prop := Ret w m fun v m' => ∃ q c Y N E, Hid (Y = openP xs) ∧ Hid (N = openN xs) ∧ Hid (E = openE xs) ∧ v = .tuple #[.int .i64 N, .slice q Y.length c, .int .i64 E] ∧ Hid (bytesL.rd m' [.slice q Y.length c] Y) ∧ Hid (Y.length ≤ c ∧ c ≤ maxLen)
theorem open_ret {w w' : World} {m : Mem} {xs : List Int} {e : Ending} (hm : m.In w) (hb : IsB xs) (hl : xs.length ≤ 140737488355328) (h : OpenPost xs w e w') : RetOpen w m xs e w' := by
  obtain ⟨v, rfl, hf, hbl⟩ := h
  have hB : IsB (openP xs) := by
    unfold openP
    split
    · exact fun x hx => hb x (List.mem_of_mem_drop (List.mem_of_mem_take hx))
    · intro x hx; simp at hx
  have hL : (openP xs).length ≤ 140737488355328 := by
    unfold openP
    split
    · simp; omega
    · simp
  obtain ⟨m', k1, k2⟩ := fr_ret hm hf (isB_inK hB) hL hbl
  have k3 := k2
  obtain ⟨q, c, rfl, a1, a2, _⟩ := Lay.list_open k2
  exact ⟨_, m', rfl, ⟨q, c, _, _, _, rfl, rfl, rfl, rfl, k3, a1, a2⟩, k1⟩
theorem open_c (m : Mem) (w : World) (hm : m.In w) (vb : Value) (b : List Int) (hb : bytesL.rd m [vb] b) :
    Calls Try.prog 23 #[vb] w (RetOpen w m b) := by
  obtain ⟨p, c, rfl, h1, h2, h3, h4, h5⟩ := bytes_rd hm hb
  simp only [maxLen] at h2
  exact (open_any p c b w h4 h5 h1 (by omega)).mono fun e w' h => open_ret hm h5 h3 h
theorem ropen_c (m : Mem) (w : World) (hm : m.In w) (vb : Value) (b : List Int) (hb : bytesL.rd m [vb] b) :
    Calls Try.prog 28 #[vb] w (RetOpen w m b) := by
  obtain ⟨p, c, rfl, h1, h2, h3, h4, h5⟩ := bytes_rd hm hb
  simp only [maxLen] at h2
  exact (ref_open_any p c b w h4 h5 h1 (by omega)).mono fun e w' h => open_ret hm h5 h3 h
end Go.Proofs.Ytnmgiiaejpaeeaa
