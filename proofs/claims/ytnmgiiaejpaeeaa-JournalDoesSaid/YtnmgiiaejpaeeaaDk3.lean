/- Contracts of disk.cut, settle. -/
import Derived.Test.YtnmgiiaejpaeeaaDk2
import Derived.Test.YtnmgiiaejpaeeaaStamp5
import Derived.OwnWalk
namespace Go.Proofs.Ytnmgiiaejpaeeaa
set_option linter.unusedVariables false
set_option linter.unusedSimpArgs false
open Go.RowKit
set_option maxRecDepth 100000 in
set_option maxHeartbeats 2000000 in
theorem cut_any (b o n c k : Nat) (w : World) (hk : (k + 1) * 32 ≤ n) (hn : n ≤ c) (hc : c ≤ maxLen) :
    Calls Try.prog 80 #[.slice (some ⟨b, o, none⟩) n c, .int .i64 k] w fun e w' => e = .returned (.slice (some ⟨b, o + k * 32, none⟩) 32 (c - k * 32)) ∧ w = w' := by
  simp only [maxLen] at hc
  have h1 : ((k * 32 : Nat) : Int) ≤ (c : Int) := by omega
  have h2 : (((k + 1) * 32 : Nat) : Int) ≤ (c : Int) := by omega
  have h3 : ¬ c = k * 32 := by omega
  go_enter Try.func80, Try.ntmps80
  go_wp2
  go_ret
  exact ⟨by rw [show (k + 1) * 32 - k * 32 = 32 by omega] at *; rfl, rfl⟩
theorem splice_take {α : Type} (l Z : List α) (off n : Nat) (h : off + Z.length ≤ n) (hl : off ≤ l.length) : (splice l off Z).take n = splice (l.take n) off Z := by
  simp only [splice]
  have e1 : (l.take off).take n = (l.take n).take off := by rw [List.take_take, List.take_take, Nat.min_comm]
  have e2 : (l.take off).length = off := by simp; omega
  rw [List.take_append, List.take_append, e1, e2, List.take_of_length_le (show Z.length ≤ n - off by omega), List.drop_take]
  congr 3
  omega
theorem splice_map {α β : Type} (f : α → β) (l Z : List α) (off : Nat) : (splice l off Z).map f = splice (l.map f) off (Z.map f) := by
  simp [splice, List.map_take, List.map_drop]
theorem run_copy_own {P : Program} (w : World) (dT sT ty elem t : TypeId) (hu : P.underlying dT = some (.slice elem)) (hsz : (P.info? elem).map (·.size) = some 1) (B : Nat)
    (g off n cd dLen dCap : Nat) (k : IntKind) (dry : List Int) (ho : Own k t w B (.slice (some ⟨g, 0, none⟩) dry.length cd) dry) (p : Option Addr) (xs : List Int) (sCap : Nat) (hr : Rd k w p xs) (hx : xs.length ≤ dLen) (hfit : off + dLen ≤ dry.length) :
    ∃ w', (Builtin.copy_ #[dT, sT] ty #[.slice (some ⟨g, off, none⟩) dLen dCap, .slice p xs.length sCap]).run P w = .ok (goInt (xs.length : Nat)) w' ∧ Own k t w' B (.slice (some ⟨g, 0, none⟩) dry.length cd) (splice dry off xs) ∧ w.grownBy w' (some g) := by
  rcases ho.2 with ⟨e, _⟩ | ⟨g', cap, cur, e, hb, hg, h1, h2, h3, h4⟩
  · cases e
  · cases e
    have hl : dry.length ≤ cur.toList.length := by
      have : (cur.toList.take (dry.length * 1)).length = dry.length := by rw [h4]; simp
      simp at this ⊢; omega
    have hmin : min xs.length dLen = xs.length := by omega
    have := run_copy_rd (P := P) w dT sT ty elem hu hsz g off dLen dCap p k xs sCap cur.toList t (by simpa using hg) hr (by rw [hmin]; omega)
    rw [hmin, List.take_of_length_le (by simpa using hx)] at this
    have hsp : (splice dry off xs).length = dry.length := length_splice _ _ _ (by omega)
    refine ⟨_, this, ?_, ⟨rfl, rfl, rfl, by simp [World.setRow], fun j _ hne => setRow_other w g j _ (fun e => hne (by rw [e]))⟩⟩
    refine ⟨by simp [hsp], .inr ⟨g, cd, (splice cur.toList off (xs.map (Value.int k))).toArray, by rw [hsp], hb, setRow_heap w g _ _ t _ hg, by rw [hsp]; exact h1, h2, ?_, ?_⟩⟩
    · rw [List.size_toArray, length_splice _ _ _ (by simp; omega)]; simpa using h3
    · rw [hsp, List.toList_toArray, splice_take _ _ _ _ (by simp; omega) (by omega), h4, splice_map]
def settleAt (many : Nat → Nat) : Nat → List Wr → List Int → List Int
  | _, [], dry => dry
  | i, x :: ws, dry => settleAt many (i + 1) ws (splice dry (x.pos.toNat * 32) (x.b.take (many i)))
theorem settleAt_snoc (many : Nat → Nat) (x : Wr) : ∀ (l : List Wr) (i : Nat) (dry : List Int), settleAt many i (l ++ [x]) dry = splice (settleAt many i l dry) (x.pos.toNat * 32) (x.b.take (many (i + l.length)))
  | [], i, dry => rfl
  | y :: l, i, dry => by
    show settleAt many (i + 1) (l ++ [x]) _ = _
    rw [settleAt_snoc many x l (i + 1)]
    show _ = splice (settleAt many (i + 1) l _) _ _
    rw [List.length_cons, show i + 1 + l.length = i + (l.length + 1) by omega]
/-- Each write has its place, and is whole. -/
def Placed (d : Dk) : Prop := ∀ x ∈ d.wet, 0 ≤ x.pos ∧ (x.pos.toNat + 1) * 32 ≤ d.dry.length ∧ x.b.length = 32
theorem settleAt_length (many : Nat → Nat) (n : Nat) (hm : ∀ i, many i ≤ 32) : ∀ (l : List Wr) (i : Nat) (dry : List Int), dry.length = n → (∀ x ∈ l, (x.pos.toNat + 1) * 32 ≤ n ∧ x.b.length = 32) → (settleAt many i l dry).length = n
  | [], _, _, h, _ => h
  | x :: l, i, dry, h, hp => by
    show (settleAt many (i + 1) l _).length = n
    have := hp x (by simp)
    refine settleAt_length many n hm l (i + 1) _ ?_ fun y hy => hp y (by simp [hy])
    rw [length_splice _ _ _ (by simp; have := hm i; omega)]
    exact h
theorem step_copy_own {P : Program} {w : World} {ops : Array Oper} {o : Oper} {a : Act} {K : Act → World → Prop} {Q : Exit → Act → World → Prop} {E : Prop} (hgd : o.guard = none) (d s : Operand) (dT sT : TypeId)
    (ho : o.op = .call { callee := .builtin .copy, args := #[d, s], argTypes := #[dT, sT] }) (elem t : TypeId) (hu : P.underlying dT = some (.slice elem)) (hsz : (P.info? elem).map (·.size) = some 1) (B : Nat)
    (g off n cd dLen dCap : Nat) (k : IntKind) (dry : List Int) (hn : dry.length = n) (hw : Own k t w B (.slice (some ⟨g, 0, none⟩) n cd) dry) (p : Option Addr) (xs : List Int) (m sCap : Nat) (hr : Rd k w p xs) (hm : xs.length = m) (hx : m ≤ dLen) (hfit : off + dLen ≤ n)
    (hd : a.eval d = .slice (some ⟨g, off, none⟩) dLen dCap) (hs : a.eval s = .slice p m sCap)
    (h : ∀ w', Own k t w' B (.slice (some ⟨g, 0, none⟩) n cd) (splice dry off xs) → w.grownBy w' (some g) → K (a.put o.dst (goInt (m : Nat))) w') :
    if Region.wanted o (yielded ops a.tmps) = true then Oper.wp P o a w K Q else E := by
  subst hn hm
  have hw' : Region.wanted o (yielded ops a.tmps) = true := by simp [Region.wanted, hgd]
  rw [if_pos hw']
  obtain ⟨w', hrun, h1, h2⟩ := run_copy_own (P := P) w dT sT o.type elem t hu hsz B g off dry.length cd dLen dCap k dry hw p xs sCap hr hx hfit
  unfold Oper.wp
  simp only [execOp, ho, resolve, invoke, builtin, hd, hs]
  simp [hd, hs, hrun, Result.andThen]
  exact h _ h1 h2
theorem grown_trans {w w1 w2 : World} {r : Option Nat} (h1 : w.grownBy w1 r) (h2 : w1.grownBy w2 r) : w.grownBy w2 r :=
  ⟨h2.os.trans h1.os, h2.tape.trans h1.tape, h2.output.trans h1.output, Nat.le_trans h1.size h2.size, fun k hk hne => (h2.block k (Nat.lt_of_lt_of_le hk h1.size) hne).trans (h1.block k hk hne)⟩
theorem grown_below {w w1 : World} {r : Option Nat} (h : Below w.heap.size w w1) : w.grownBy w1 r := ⟨h.os, h.tape, h.output, h.size, fun k hk _ => h.block k hk⟩
theorem Own.ge {k : IntKind} {e : TypeId} {w : World} {B g n c : Nat} {xs : List Int} (h : Own k e w B (.slice (some ⟨g, 0, none⟩) n c) xs) : B ≤ g ∧ g < w.heap.size ∧ n ≤ c ∧ c ≤ maxLen := by
  rcases h.2 with ⟨e, _⟩ | ⟨g', cap, cur, e, hb, hg, h1, h2, _⟩
  · cases e
  · cases e
    exact ⟨hb, (Array.getElem?_eq_some_iff.1 hg).1, by rename_i hh; simpa using h1, h2⟩
attribute [local go_sem ↓] Go.wp_at_zero Go.wp_at_succ
set_option maxRecDepth 100000 in
set_option maxHeartbeats 4000000 in
theorem settle_any (T lo mid hi g cd : Nat) (q : Option Addr) (e : Nat) (cells : List Value) (d : Dk) (w : World) (gf : Nat) (lb : Array Value) (many : Nat → Nat) (od : OwnDk w lo mid hi g cd q e cells d)
    (bx : BoxOf w T [.slice (some ⟨g, 0, none⟩) d.dry.length cd, .slice q d.wet.length e, .int .i64 d.fuse, .bool d.dead]) (hT : T ≠ g) (hp : Placed d) (hlm : lo ≤ mid) (eg : Enters Try.prog gf) (hmany : ∀ i, many i ≤ 32) (hmax : d.wet.length ≤ 8192)
    (hm : ∀ W k, w.grownBy W (some g) → k < d.wet.length → Calls Try.prog gf (#[.int .i64 k] ++ lb) W fun e' w' => e' = .returned (.int .i64 (many k)) ∧ W = w') :
    Calls Try.prog 75 #[.pointer (some ⟨T, 0, none⟩), .func (.func gf) #[] lb] w fun e' w' => e' = .returned (.tuple #[]) ∧ BoxOf w' T [.slice (some ⟨g, 0, none⟩) d.dry.length cd, .slice none 0 0, .int .i64 d.fuse, .bool d.dead] ∧
      Own .u8 5 w' mid (.slice (some ⟨g, 0, none⟩) d.dry.length cd) (settleAt many 0 d.wet d.dry) ∧ ∃ w1, w.grownBy w1 (some g) ∧ w' = w1.setCell ⟨T, 1, none⟩ (.slice none 0 0) := by
  have c1 := (bx.get 1 _ rfl).1
  unfold Enters at eg
  have H := Lib.hid hm
  have HP := Lib.hid hp
  clear hm hp
  go_enter Try.func75, Try.ntmps75
  go_wp2_with fail
  go_loopw [11] (fun i wr => ∃ (k : Nat) (dry : List Int), k ≤ d.wet.length ∧ i = .int .i64 k ∧ Hid (dry = settleAt many 0 (d.wet.take k) d.dry) ∧ Own .u8 5 wr mid (.slice (some ⟨g, 0, none⟩) d.dry.length cd) dry ∧ w.grownBy wr (some g)) (fun i _ => d.wet.length - (intOf i).toNat)
  case atStart => exact ⟨0, d.dry, Nat.zero_le _, rfl, rfl, od.dry, World.grownBy.refl _ _⟩
  case round =>
    obtain ⟨k, dry, hk, rfl, hdry, ho, hg⟩ := hrel
    have b1 := bx.grown hg hT
    by_cases hlt : k < d.wet.length
    · obtain ⟨h, rfl, _, hc1, hc2, hmid, hcells⟩ := ownsRow_head (od.wet.kept hg (.inr (by
        obtain ⟨r, rfl, _⟩ := ownsRow_head od.wet (by omega)
        have := (od.ne _ rfl).1
        simpa [Value.ownBlock] using this))) (by omega)
      have hge := od.dry.ge
      have hlt' := od.lt
      obtain ⟨x1, qx, cx, x2, x3, x4, x5, x6⟩ := (od.row.grown hg (by omega)) k _ (List.getElem?_eq_getElem hlt)
      obtain ⟨y1, z1⟩ := hcells _ _ x1
      obtain ⟨y2, z2⟩ := hcells _ _ x2
      obtain ⟨p0, p1, p2⟩ := HP.out _ (List.getElem_mem hlt)
      obtain ⟨m, hpos⟩ : ∃ m : Nat, d.wet[k].pos = m := ⟨d.wet[k].pos.toNat, by omega⟩
      obtain ⟨bq, oq, rfl, hbq⟩ := x6 (by omega)
      have x6' : Rd .u8 wr (some ⟨bq, oq, none⟩) d.wet[k].b := x6
      have x7 := x5 (by omega) _ rfl
      have hM := hmany k
      have hlen : Hid (dry.length = d.dry.length) := by
        have := hdry.out
        show _ = _
        rw [this]
        exact settleAt_length many _ hmany _ _ _ rfl fun x hx => (HP.out x (List.mem_of_mem_take hx)).2
      rw [hpos] at y1 p1
      rw [Int.toNat_natCast] at p1
      rw [p2] at y2 x3
      have c0 := (b1.get 0 _ rfl).1
      have hD : ∀ O, Below wr.heap.size wr ((wr.alloc O).drew) := fun O => (below_new wr O).drew
      have HDD := Lib.hid hD
      have HG := Lib.hid hg
      have HOD := Lib.hid od
      have HX := Lib.hid x6'
      have HO := Lib.hid ho
      have m1 : ((many k : Nat) : Int) ≤ (cx : Int) := by omega
      have m0 : (0 : Int) ≤ ((many k : Nat) : Int) := by omega
      have hTw : T < wr.heap.size := b1.lt
      clear hD hg od x1 x2 x5 x6 x6' hbq hcells z1 z2 ho bx b1
      have HLT : Hid ((d.wet[k].b.take (many k)).length = many k) := by show _ = _; rw [List.length_take]; omega
      go_wp2_with fail
      go_region_held3 (fun w' => w'.cell? ⟨T, 0, none⟩ = some (.slice (some ⟨g, 0, none⟩) d.dry.length cd) ∧ w'.cell? ⟨wr.heap.size, 0, none⟩ = some (.int .i64 m) ∧ w'.cell? ⟨wr.heap.size, 1, none⟩ = some (.slice (some ⟨bq, oq, none⟩) 32 cx)) (go_keep) (first
        | (go_at_call 80; go_loud (refine (cut_any g 0 d.dry.length cd m _ p1 hge.2.2.1 hge.2.2.2).mono ?_; rintro e' w' ⟨rfl, rfl⟩; rw [Nat.zero_add]))
        | (refine (H.out _ k (grown_trans HG.out (grown_below (HDD.out _))) hlt).mono ?_; rintro e' w' ⟨rfl, rfl⟩)
        | (refine step_copy_own rfl (.tmp 22) (.tmp 28) 22 22 rfl 5 5 Try.underlying22 (by kernel_rfl) mid g (m * 32) d.dry.length cd 32 (cd - m * 32) .u8 dry hlen.out (HO.out.below (HDD.out _)) (some ⟨bq, oq, none⟩) (d.wet[k].b.take (many k)) (many k) cx ((HX.out.below (HDD.out _)).take (many k)) HLT.out hM (by omega) (by simp [Act.eval, Act.put]) (by simp [Act.eval, Act.put]) ?_; intro w4 ho4 hg4; have j0 := hg4.cell (cell_below (HDD.out _) c0) (by intro e; exact hT (Option.some.inj e)); have j1 := hg4.cell (a := ⟨wr.heap.size, 0, none⟩) (v := .int .i64 m) (by simp) (by intro e; have e' : wr.heap.size = g := Option.some.inj e; have := HG.out.size; omega); have j2 := hg4.cell (a := ⟨wr.heap.size, 1, none⟩) (v := .slice (some ⟨bq, oq, none⟩) 32 cx) (by simp) (by intro e; have e' : wr.heap.size = g := Option.some.inj e; have := HG.out.size; omega)))
      all_goals
        have hg5 := grown_trans HG.out (grown_trans (grown_below (HDD.out _)) hg4)
        clear j0 j1 j2 c0 y1 y2
        go_wp2_with fail
        go_roundw
        case rel =>
          refine ⟨k + 1, _, hlt, by go_num, ?_, ho4, hg5⟩
          show _ = _
          rw [List.take_succ_eq_append_getElem hlt, settleAt_snoc, List.length_take, Nat.min_eq_left (Nat.le_of_lt hlt), Nat.zero_add, ← hdry.out, hpos]; rfl
        case measure => simp [intOf]; omega
    · obtain rfl : k = d.wet.length := by omega
      have j1 := (b1.get 1 _ rfl)
      have J1 := j1.1
      have J2 := j1.2
      have HB1 := Lib.hid b1
      have HO := Lib.hid ho
      have HG := Lib.hid hg
      clear od bx b1 j1 ho hg
      go_wp2
      refine bodyPost_end (results_none rfl _ _ _) rfl ?_
      refine ⟨rfl, HB1.out.set 1 _, ?_, wr, HG.out, rfl⟩
      have := hdry.out
      rw [List.take_length] at this
      rw [← this]
      exact HO.out.kept (grownBy_set _ _ _) (.inr (by simp [Value.ownBlock]; exact fun e => hT e.symm))
end Go.Proofs.Ytnmgiiaejpaeeaa
