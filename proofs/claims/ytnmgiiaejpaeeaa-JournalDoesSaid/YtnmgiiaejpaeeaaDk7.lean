/- Contracts of disk.Write. -/
import Derived.Test.YtnmgiiaejpaeeaaDk5
import Derived.Deep.AppendLies
namespace Go.Proofs.Ytnmgiiaejpaeeaa
set_option linter.unusedVariables false
set_option linter.unusedSimpArgs false
open Go.RowKit
theorem BoxOf.grownR {w w' : World} {T : Nat} {r : Option Nat} {vs : List Value} (h : BoxOf w T vs) (hb : w.grownBy w' r) (hn : some T ≠ r) : BoxOf w' T vs := by
  have hl := h.lt
  obtain ⟨t, h⟩ := h
  exact ⟨t, (hb.block T hl hn).trans h⟩
theorem Rd.grownR {k : IntKind} {w w' : World} {p : Option Addr} {xs : List Int} {r : Option Nat} (h : Rd k w p xs) (hg : w.grownBy w' r) (hn : 0 < xs.length → ∀ a, p = some a → some a.block ≠ r) : Rd k w' p xs := fun h0 => by
  obtain ⟨b, o, rfl, hc⟩ := h h0
  exact ⟨b, o, rfl, fun i hi => hg.cell (hc i hi) (show some b ≠ r from hn h0 ⟨b, o, none⟩ rfl)⟩
theorem WetRow.grownR {w w' : World} {ok : Nat → Prop} {r : Option Nat} {cells : List Value} {ws : List Wr} (h : WetRow w ok cells ws) (hb : w.grownBy w' r) (hk : ∀ b, ok b → some b ≠ r) : WetRow w' ok cells ws := fun i x hx => by
  obtain ⟨h1, q, c, h2, h3, h4, h5, h6⟩ := h i x hx
  exact ⟨h1, q, c, h2, h3, h4, h5, h6.grownR hb fun h0 a ha => hk _ (h5 h0 a ha)⟩
theorem WetRow.snoc {w : World} {ok : Nat → Prop} {cells : List Value} {ws : List Wr} (h : WetRow w ok cells ws) (hl : cells.length = ws.length * 2) (x : Wr) (q : Option Addr) (c : Nat) (h3 : x.b.length ≤ c) (h4 : c ≤ maxLen) (h5 : 0 < x.b.length → ∀ a, q = some a → ok a.block) (h6 : Rd .u8 w q x.b) :
    WetRow w ok (cells ++ [.int .i64 x.pos, .slice q x.b.length c]) (ws ++ [x]) := fun i y hy => by
  by_cases hi : i < ws.length
  · rw [List.getElem?_append_left hi] at hy
    obtain ⟨h1, q', c', h2, r⟩ := h i y hy
    exact ⟨by rw [List.getElem?_append_left (by omega)]; exact h1, q', c', by rw [List.getElem?_append_left (by omega)]; exact h2, r⟩
  · have he : i = ws.length := by
      have := (List.getElem?_eq_some_iff.1 hy).1
      simp at this; omega
    subst he
    simp at hy
    subst hy
    exact ⟨by rw [List.getElem?_append_right (by omega)]; simp [hl], q, c, by rw [List.getElem?_append_right (by omega)]; simp [hl], h3, h4, h5, h6⟩
theorem below_keeps {mid T : Nat} {w w' : World} (h : Below w.heap.size w w') (hm : mid ≤ w.heap.size) : KeepsAt mid T w w' := ⟨h.os, h.tape, h.output, h.size, fun k hk _ => h.block k (by omega)⟩
theorem grownR_keeps {mid T : Nat} {r : Option Nat} {w w' : World} (hg : w.grownBy w' r) (hr : ∀ B, B < mid → some B ≠ r) (hm : mid ≤ w.heap.size) : KeepsAt mid T w w' := ⟨hg.os, hg.tape, hg.output, hg.size, fun k hk _ => hg.block k (by omega) (hr k hk)⟩
def writeAct (k : Int) (b : List Int) (d : Dk) : Dk := { d with wet := d.wet ++ [⟨k, b⟩] }
attribute [local go_sem ↓] Go.wp_at_zero Go.wp_at_succ
set_option maxRecDepth 100000 in
set_option maxHeartbeats 4000000 in
theorem write1_any (T Ta Tb lo mid hi g cd : Nat) (q : Option Addr) (e : Nat) (cells : List Value) (d : Dk) (f k : Int) (pb : Option Addr) (cb : Nat) (b : List Int) (w : World) (od : OwnDk w lo mid hi g cd q e cells d)
    (bx : BoxOf w T [.slice (some ⟨g, 0, none⟩) d.dry.length cd, .slice q d.wet.length e, .int .i64 f, .bool d.dead]) (bk : BoxOf w Ta [.int .i64 k]) (bb : BoxOf w Tb [.slice pb b.length cb]) (rb : Rd .u8 w pb b) (hb : b.length = 32) (hcb : b.length ≤ cb) (hmb : cb ≤ maxLen)
    (hlm : lo ≤ mid) (hT : T < mid) (hmax : d.wet.length < 8192) (hs : mid ≤ w.heap.size) (hok : lo ≤ T) (hTa : Ta < mid) (hTb : Tb < mid) (hTa' : ¬ T = Ta) (hTb' : ¬ T = Tb) (hTa'' : ¬ Ta = T) (hTb'' : ¬ Tb = T) :
    Calls Try.prog 72 #[.pointer (some ⟨T, 0, none⟩), .pointer (some ⟨Ta, 0, none⟩), .pointer (some ⟨Tb, 0, none⟩)] w fun e' w' => e' = .returned (.tuple #[]) ∧ KeepsAt mid T w w' ∧ ∃ vd vq, BoxOf w' T [vd, vq, .int .i64 f, .bool d.dead] ∧ NewAt w' mid (fun b => b < lo ∨ mid ≤ b) vd vq (writeAct k b d) := by
  have k1 := (bx.get 1 _ rfl).1
  have f1 := (bx.get 1 _ rfl).2
  have ka := (bk.get 0 _ rfl).1
  have kb := (bb.get 0 _ rfl).1
  have hrow := ownsRow_lims od.wet
  obtain ⟨i0, hi0, hz0, hz1, hz2⟩ := info_parts info_wr
  have HQ : Hid (∀ B, B < mid → some B ≠ (Value.slice q d.wet.length e).ownBlock) := Lib.hid fun B hB e' => by
    cases q with
    | none => simp [Value.ownBlock] at e'
    | some a => have := hrow.2.2 a rfl; simp [Value.ownBlock] at e'; omega
  have CL : Hid (∀ W, Rd .u8 W pb b → Calls Try.prog 73 #[.slice pb 32 cb] W fun e w' => ∃ v, e = .returned v ∧ Own .u8 5 w' W.heap.size v b ∧ Below W.heap.size W w') := Lib.hid fun W hW => by
    have := clone_rd pb cb b W hW (by omega)
    rwa [hb] at this
  have OD := Lib.hid od
  have BX := Lib.hid bx
  have BK := Lib.hid bk
  have BB := Lib.hid bb
  have RB := Lib.hid rb
  have HBL := Lib.hid hb
  rw [hb] at kb
  clear od bx bk bb rb hb
  go_enter Try.func72, Try.ntmps72
  go_wp2_with fail
  go_region_law (first
    | ((rw [if_pos (by simp [Region.wanted])]); go_simp; go_at_call 73; go_loud (refine (CL.out _ (RB.out.below (Below.refl _ w).drew)).mono ?_; rintro e' w1 ⟨v1, rfl, ho1, hb1⟩; replace hb1 : Below w.heap.size w w1 := bel2 (Below.refl _ w).drew hb1; have j0 := cell_below hb1 ka; have j1 := cell_below hb1 kb; have j2 := cell_below hb1 k1; have j2a := fun O => cell_below (below_new w1 O) j2; have j0a := fun O => cell_below (below_new w1 O) j0; have j1a := fun O => cell_below (below_new w1 O) j1; have j3 := ((BX.out.below hb1).get 1 _ rfl).2; obtain ⟨gb, cb1, rfl, hgb, _⟩ := ho1.form (by rw [HBL.out]; omega); dsimp only))
    | (refine step_append_lies _ rfl (.tmp 8) (.tmp 13) 42 rfl mid 102 i0 (.agg #[.int .i64 0, .slice none 0 0]) 2 32 Try.underlying42 hi0 hz0 hz1 hz2 rfl (by decide) (.slice q d.wet.length e) d.wet.length cells (by simp [Act.eval, Act.put]) ((OD.out.below hb1).wet.alloc _) ⟨w1.heap.size, 0, none⟩ 1 1 [.int .i64 k, .slice (some ⟨gb, 0, none⟩) b.length cb1] (by simp [Act.eval, Act.put]) rfl (by intro j u hj; rw [Addr.add_lit, Nat.zero_add, cell_of_row _ _ _ _ _ _ (heap_alloc_new w1 _)]; simpa using hj) (by simp [Value.oneCell']) (by decide) (by simp only [maxLen]; omega) (by omega) (by have := hb1.size; simp; omega) _ rfl ?_; intro g2 cap w2 hown2 hgrow hat hlt; have m0 := hgrow.cell (cell_below (below_new w1 _) j0) (HQ.out Ta hTa); have m1 := hgrow.cell (cell_below (below_new w1 _) j1) (HQ.out Tb hTb); have m2 := hgrow.cell (cell_below (below_new w1 _) j2) (HQ.out T hT); have m3 := ((((BX.out.below hb1).alloc _).grownR hgrow (HQ.out T hT)).get 1 _ rfl).2; have MX := (((BX.out.below hb1).alloc (.cells #[.int .i64 k, .slice (some ⟨gb, 0, none⟩) b.length cb1] 102)).grownR hgrow (HQ.out T hT))))
  all_goals
    refine bodyPost_end (results_none rfl _ _ _) rfl ?_
    have bN : Below w1.heap.size w1 (w1.alloc (.cells #[.int .i64 k, .slice (some ⟨gb, 0, none⟩) b.length cb1] 102)) := below_new w1 _
    have bA := bel2 hb1 bN
    have gS := grownBy_set w2 ⟨T, 1, none⟩ (.slice (some ⟨g2, 0, none⟩) (d.wet.length + 1) cap)
    have oA := OD.out.below bA
    have hsA : mid ≤ (w1.alloc (.cells #[.int .i64 k, .slice (some ⟨gb, 0, none⟩) b.length cb1] 102)).heap.size := Nat.le_trans hs bA.size
    have hgg := OD.out.dry.ge
    have hll := OD.out.lt
    have hqlt : ∀ a, q = some a → a.block < w.heap.size := fun a ha => (World.ownsRow.lt OD.out.wet a.block (by rw [ha]; rfl)).2
    have hgb' : w.heap.size ≤ gb := hgb
    have l2 := ownsRow_lims hown2
    refine ⟨rfl, ((below_keeps bA hs).trans (grownR_keeps hgrow HQ.out hsA)).trans (grown_keeps gS (.inr rfl) (Nat.le_trans hsA hgrow.size)), _, _, MX.set 1 _, ?_⟩
    have hgq : some g ≠ (Value.slice q d.wet.length e).ownBlock := by
      cases q with
      | none => simp [Value.ownBlock]
      | some a => have := (OD.out.ne a rfl).1; simp [Value.ownBlock]; omega
    have r1 : WetRow w2 (fun b => b < lo ∨ hi ≤ b) cells d.wet := oA.row.grownR hgrow fun b hb => by
      cases q with
      | none => simp [Value.ownBlock]
      | some a => have h1 := (OD.out.ne a rfl).2; have h2 := hrow.2.2 a rfl; simp [Value.ownBlock]; omega
    have r2 := (r1.grown gS (by show ¬ (T < lo ∨ hi ≤ T); omega)).imp (ok' := fun b => b < lo ∨ mid ≤ b) fun b hb => by omega
    have rd1 : Rd .u8 w1 (some ⟨gb, 0, none⟩) b := by
      obtain ⟨p', c', e', _, _, hr⟩ := ho1.fr.rd
      cases e'
      exact hr
    have rd2 := ((rd1.below bN).grownR hgrow fun _ a ha => by
      obtain rfl := Option.some.inj ha
      cases q with
      | none => simp [Value.ownBlock]
      | some a => have := hqlt a rfl; simp [Value.ownBlock]; omega).grown gS (fun _ a ha => by obtain rfl := Option.some.inj ha; show gb ≠ T; omega)
    have hlim := ho1.ge
    have r3 := r2.snoc OD.out.wet.1 ⟨k, b⟩ (some ⟨gb, 0, none⟩) cb1 hlim.2.2.1 hlim.2.2.2 (fun _ a ha => by obtain rfl := Option.some.inj ha; exact .inr (by show mid ≤ gb; omega)) rd2
    have g2m := l2.2.2 _ rfl
    simp only at g2m
    refine ⟨(oA.dry.kept hgrow (.inr hgq)).kept gS (.inr (by simp [Value.ownBlock]; omega)), fun b hb => .inr (by simp [Value.ownBlock] at hb; omega), some ⟨g2, 0, none⟩, cap, by simp [writeAct], by simpa [writeAct] using l2.1, l2.2.1, ?_⟩
    refine rdWk_of_row (n := d.wet.length + 1) (B := mid) (c := cap) (e := 102) ?_ r3 fun a ha => .inr (by obtain rfl := Option.some.inj ha; exact g2m)
    have := hown2.kept gS (.inr (by simp [Value.ownBlock]; omega))
    simpa [writeAct] using this
end Go.Proofs.Ytnmgiiaejpaeeaa
