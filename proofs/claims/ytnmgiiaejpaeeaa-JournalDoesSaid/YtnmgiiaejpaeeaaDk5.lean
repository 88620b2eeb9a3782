/- Contracts of disk.Flush, and of its two function values. -/
import Derived.Test.YtnmgiiaejpaeeaaDk4
namespace Go.Proofs.Ytnmgiiaejpaeeaa
set_option linter.unusedVariables false
set_option linter.unusedSimpArgs false
open Go.RowKit
/-- A new disk as a value. -/
def NewDk (w : World) (B : Nat) (v : Value) (d : Dk) : Prop := ∃ vd vq ok, v = .agg #[vd, vq, .int .i64 d.fuse, .bool d.dead] ∧ NewAt w B ok vd vq d
theorem NewDk.zero (w : World) (B : Nat) : NewDk w B (.agg #[.slice none 0 0, .slice none 0 0, .int .i64 0, .bool false]) dk0 :=
  ⟨_, _, fun _ => True, rfl, Own.nil _ _ _ _, fun _ _ => trivial, none, 0, rfl, Nat.le_refl _, by simp [maxLen], RdWk.nil _ _ _⟩
theorem NewDk.below {w w' : World} {B : Nat} {v : Value} {d : Dk} (h : NewDk w B v d) (hb : Below w.heap.size w w') : NewDk w' B v d := by
  obtain ⟨vd, vq, ok, rfl, h⟩ := h
  exact ⟨vd, vq, ok, rfl, h.below hb⟩
theorem NewDk.rd {w : World} {B : Nat} {v : Value} {d : Dk} (h : NewDk w B v d) : ∃ p c q e, v = dkV p c q e d ∧ DkAt w p c q e d := by
  obtain ⟨vd, vq, ok, rfl, h⟩ := h
  obtain ⟨q, e, rfl, h1, h2, h3⟩ := h.wet
  obtain ⟨p, c, rfl, h4, h5, h6⟩ := h.dry.fr.rd
  exact ⟨p, c, q, e, rfl, h4, h5, h1, h2, h6, h3.rd⟩
theorem odd_no {d : Dk} {x : Wr} (h : oddD d x = false) : 0 ≤ x.pos ∧ x.pos < ((d.dry.length / 32 : Nat) : Int) ∧ x.b.length = 32 := by
  simp [oddD, farD] at h
  omega
theorem ok_each {d : Dk} (h : checkOK d) : ∀ x ∈ d.wet, 0 ≤ x.pos ∧ x.pos < ((d.dry.length / 32 : Nat) : Int) ∧ x.b.length = 32 := fun x hx => odd_no (by
  have := h.2.2.2.2.1
  rw [List.any_eq_false] at this
  simpa using this x hx)
theorem placed_of_ok {d : Dk} (h : checkOK d) : Placed d := fun x hx => by
  have := ok_each h x hx
  have := h.2.2.1
  omega
theorem big_of_ok {d : Dk} (h : checkOK d) : DkBig d :=
  ⟨by have := h.2.1; omega, by have := h.2.2.2.1; omega, fun x hx => by have := ok_each h x hx; omega⟩
def flushAct (d : Dk) : Dk := { d with dry := settleAt (fun _ => 32) 0 d.wet d.dry, wet := [] }
def flushD (d : Dk) : Dk := if aliveE d = 0 then deedD flushAct d else dk0
def flushE (d : Dk) : Int := if aliveE d = 0 then deedE d else aliveE d
set_option maxRecDepth 100000 in
theorem all_any (k : Int) (w : World) : Calls Try.prog 76 #[.int .i64 k] w fun e w' => e = .returned (.int .i64 32) ∧ w = w' := by
  go_enter Try.func76, Try.ntmps76
  go_wp2
  go_ret
  exact ⟨rfl, rfl⟩
set_option maxRecDepth 100000 in
set_option maxHeartbeats 2000000 in
theorem flush1_any (T lo mid hi g cd : Nat) (q : Option Addr) (e : Nat) (cells : List Value) (d : Dk) (f : Int) (w : World) (od : OwnDk w lo mid hi g cd q e cells d)
    (bx : BoxOf w T [.slice (some ⟨g, 0, none⟩) d.dry.length cd, .slice q d.wet.length e, .int .i64 f, .bool d.dead]) (hlm : lo ≤ mid) (hT : T < mid) (hp : Placed d) (hmax : d.wet.length ≤ 8192) (hs : mid ≤ w.heap.size) (hok : lo ≤ T) :
    Calls Try.prog 74 #[.pointer (some ⟨T, 0, none⟩)] w fun e' w' => e' = .returned (.tuple #[]) ∧ KeepsAt mid T w w' ∧ ∃ vd vq, BoxOf w' T [vd, vq, .int .i64 f, .bool d.dead] ∧ NewAt w' mid (fun b => b < lo ∨ mid ≤ b) vd vq (flushAct d) := by
  have hg := od.dry.ge
  have hgT : T ≠ g := by omega
  go_enter Try.func74, Try.ntmps74
  go_wp2_with fail
  refine (settle_any T lo mid hi g cd q e cells { d with fuse := f } w 76 #[] (fun _ => 32) ⟨od.dry, od.wet, od.row, od.ne, od.lt⟩ bx hgT hp hlm (enters_of Try.func76 (by kernel_rfl) rfl) (fun _ => Nat.le_refl _) hmax (fun W k _ _ => by simpa using all_any k W)).mono ?_
  rintro e' w' ⟨rfl, b1, ho, w1, hg1, rfl⟩
  have hl : (settleAt (fun _ => 32) 0 d.wet d.dry).length = d.dry.length := settleAt_length _ d.dry.length (fun _ => Nat.le_refl _) _ _ _ rfl fun x hx => (hp x hx).2
  have HB1 := Lib.hid b1
  have HO := Lib.hid ho
  have HK : Hid (KeepsAt mid T w (w1.setCell ⟨T, 1, none⟩ (.slice none 0 0))) := (grown_keeps hg1 (.inl hg.1) hs).trans (grown_keeps (grownBy_set w1 ⟨T, 1, none⟩ _) (.inr rfl) (Nat.le_trans hs hg1.size))
  clear b1 ho bx od
  generalize w1.setCell ⟨T, 1, none⟩ (.slice none 0 0) = W at *
  go_wp2
  refine bodyPost_end (results_none rfl _ _ _) rfl ?_
  exact ⟨rfl, HK.out, _, _, HB1.out, HO.out, fun b hb => .inr (by simp [Value.ownBlock] at hb; omega), none, 0, rfl, Nat.le_refl _, by simp [maxLen], RdWk.nil _ _ _⟩
set_option maxRecDepth 100000 in
set_option maxHeartbeats 4000000 in
theorem flush_any (p : Option Addr) (c : Nat) (q : Option Addr) (e : Nat) (d : Dk) (w : World) (h : DkAt w p c q e d) :
    Calls Try.prog 37 #[dkV p c q e d] w fun e' w' => ∃ v, e' = .returned (.tuple #[v, .int .i64 (flushE d)]) ∧ NewDk w' w.heap.size v (flushD d) ∧ Below w.heap.size w w' := by
  have hW : ∀ O1 O2, Below w.heap.size w ((w.alloc O1).alloc O2) := fun O1 O2 => (below_new w O1).alloc (by simp) O2
  have HW := Lib.hid hW
  have H := Lib.hid h
  clear h hW
  go_enter Try.func37, Try.ntmps37
  go_wp2_with fail
  refine (alive_any p c q e d _ (H.out.below (HW.out _ _))).mono ?_
  rintro e' w2 ⟨rfl, hb2⟩
  have hs : ((w.alloc (.cells #[.slice p d.dry.length c, .slice q d.wet.length e, .int .i64 d.fuse, .bool d.dead] 44)).alloc (.cells #[.slice none 0 0, .slice none 0 0, .int .i64 0, .bool false] 44)).heap.size = w.heap.size + 2 := by simp
  have hbb : Below w.heap.size w w2 := bel2 (HW.out _ _) hb2
  have hs2 := hb2.size
  rw [hs] at hs2
  have b1 : BoxOf w2 w.heap.size [.slice p d.dry.length c, .slice q d.wet.length e, .int .i64 d.fuse, .bool d.dead] := (box_two' w [.slice p d.dry.length c, .slice q d.wet.length e, .int .i64 d.fuse, .bool d.dead] [.slice none 0 0, .slice none 0 0, .int .i64 0, .bool false] _ _).1.below hb2
  have b2 : BoxOf w2 (w.heap.size + 1) [.slice none 0 0, .slice none 0 0, .int .i64 0, .bool false] := (box_two' w [.slice p d.dry.length c, .slice q d.wet.length e, .int .i64 d.fuse, .bool d.dead] [.slice none 0 0, .slice none 0 0, .int .i64 0, .bool false] _ _).2.below hb2
  have B1 := Lib.hid b1
  have B2 := Lib.hid b2
  have BB := Lib.hid hbb
  clear b1 b2 hbb hb2 hs
  by_cases ha : aliveE d = 0
  · have hok : checkOK d := by
      unfold aliveE at ha
      by_cases hc : checkOK d
      · exact hc
      · rw [if_neg hc] at ha; omega
    have e1 : flushD d = deedD flushAct d := if_pos ha
    have e2 : flushE d = deedE d := if_pos ha
    have E1 := Lib.hid e1
    have E2 := Lib.hid e2
    rw [ha]
    clear e1 e2 ha
    have dd := deed_any p c q e d w w2 74 #[] flushAct H.out BB.out (big_of_ok hok) (by have := hok.1; omega) (enters_of Try.func74 (by kernel_rfl) rfl) hok.2.2.2.2.2.1 hok.2.2.2.2.2.2
      (fun W hi g cd q' e' cells f od bx _ hsz => by simpa using flush1_any w2.heap.size w.heap.size (w2.heap.size + 2) hi g cd q' e' cells d f W od bx (by omega) (by omega) (placed_of_ok hok) hok.2.2.2.1 hsz (by omega))
    have DD := Lib.hid dd
    clear dd
    go_wp2_with (first
      | (refine wpList_load_box rfl 44 (.tmp 1) (by rfl) w.heap.size [.slice p d.dry.length c, .slice q d.wet.length e, .int .i64 d.fuse, .bool d.dead] (by rfl) B1.out _ Try.underlying44 rfl (by kernel_rfl) ?_)
      | (refine DD.out.mono ?_; rintro e' w4 ⟨vd, vq, rfl, na, hb4⟩; have x5 := B2.out.below hb4; have b5 := bel2 BB.out hb4)
      | (refine wpList_store_box rfl 44 (.tmp 2) (.tmp 13) (by rfl) (w.heap.size + 1) [vd, vq, .int .i64 (deedD flushAct d).fuse, .bool (deedD flushAct d).dead] _ (by rfl) (by rfl) x5 (by kernel_rfl) rfl (by first | (simp [Value.oneCell']; done) | exact one4 na _ _) ?_; intro w5 x2 g2))
    refine ret_disk_tmp rfl rfl x2 rfl ?_
    have n1 := na.grown g2 (by omega)
    exact ⟨_, by rw [E2.out]; rfl, by rw [E1.out]; exact ⟨vd, vq, _, rfl, n1.imp (by omega) (fun _ h => h)⟩, b5.grown g2 b5.size (fun k hk => by have := Option.some.inj hk; omega)⟩
  · have e1 : flushD d = dk0 := if_neg ha
    have e2 : flushE d = aliveE d := if_neg ha
    have ha' : (aliveE d != 0) = true := by rw [bne_iff_ne]; exact ha
    have E1 := Lib.hid e1
    have E2 := Lib.hid e2
    generalize aliveE d = A at *
    clear e1 e2 ha
    go_wp2_with (refine wpList_store_box rfl 44 (.tmp 2) (.tmp 9) (by rfl) (w.heap.size + 1) [.slice none 0 0, .slice none 0 0, .int .i64 0, .bool false] _ (by rfl) (by rfl) B2.out (by kernel_rfl) rfl (by simp [Value.oneCell']) ?_; intro w5 x2 g2)
    refine ret_disk_tmp rfl rfl x2 rfl ?_
    exact ⟨_, by rw [E2.out]; rfl, by rw [E1.out]; exact NewDk.zero _ _, BB.out.grown g2 BB.out.size (fun k hk => by have := Option.some.inj hk; omega)⟩
end Go.Proofs.Ytnmgiiaejpaeeaa
