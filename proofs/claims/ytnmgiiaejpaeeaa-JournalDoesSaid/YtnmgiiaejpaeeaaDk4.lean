/- Contracts of disk.deed, Flush. -/
import Derived.Test.YtnmgiiaejpaeeaaDk3
namespace Go.Proofs.Ytnmgiiaejpaeeaa
set_option linter.unusedVariables false
set_option linter.unusedSimpArgs false
open Go.RowKit
/-- Writes that lie in blocks that are ok. -/
def RdWk (w : World) (ok : Nat → Prop) (p : Option Addr) (ws : List Wr) : Prop :=
  0 < ws.length → ∃ b o, p = some ⟨b, o, none⟩ ∧ ok b ∧ ∀ i x, ws[i]? = some x → w.cell? ⟨b, o + i * 2, none⟩ = some (.int .i64 x.pos) ∧
    ∃ q c, w.cell? ⟨b, o + i * 2 + 1, none⟩ = some (.slice q x.b.length c) ∧ x.b.length ≤ c ∧ c ≤ maxLen ∧ (0 < x.b.length → ∀ a, q = some a → ok a.block) ∧ Rd .u8 w q x.b
theorem RdWk.nil (w : World) (ok : Nat → Prop) (p : Option Addr) : RdWk w ok p [] := fun h => absurd h (Nat.lt_irrefl 0)
theorem RdWk.rd {w : World} {ok : Nat → Prop} {p : Option Addr} {ws : List Wr} (h : RdWk w ok p ws) : RdW w p ws := fun h0 => by
  obtain ⟨b, o, e, _, hc⟩ := h h0
  refine ⟨b, o, e, fun i x hx => ?_⟩
  obtain ⟨h1, q, c, h2, h3, h4, _, h5⟩ := hc i x hx
  exact ⟨h1, q, c, h2, h3, h4, h5⟩
theorem RdWk.grown {w w' : World} {ok : Nat → Prop} {p : Option Addr} {ws : List Wr} {r : Nat} (h : RdWk w ok p ws) (hg : w.grownBy w' (some r)) (hr : ¬ ok r) : RdWk w' ok p ws := fun h0 => by
  obtain ⟨b, o, e, hb, hc⟩ := h h0
  have hne : ∀ j, some (⟨b, j, none⟩ : Addr).block ≠ some r := fun j e => hr (by have : b = r := Option.some.inj e; exact this ▸ hb)
  refine ⟨b, o, e, hb, fun i x hx => ?_⟩
  obtain ⟨h1, q, c, h2, h3, h4, h5, h6⟩ := hc i x hx
  exact ⟨hg.cell h1 (hne _), q, c, hg.cell h2 (hne _), h3, h4, h5, h6.grown hg fun h0 a ha e => hr (e ▸ h5 h0 a ha)⟩
theorem RdWk.below {w w' : World} {ok : Nat → Prop} {p : Option Addr} {ws : List Wr} (h : RdWk w ok p ws) (hb : Below w.heap.size w w') : RdWk w' ok p ws := fun h0 => by
  obtain ⟨b, o, e, hk, hc⟩ := h h0
  refine ⟨b, o, e, hk, fun i x hx => ?_⟩
  obtain ⟨h1, q, c, h2, h3, h4, h5, h6⟩ := hc i x hx
  exact ⟨cell_below hb h1, q, c, cell_below hb h2, h3, h4, h5, h6.below hb⟩
theorem RdWk.imp {w : World} {ok ok' : Nat → Prop} {p : Option Addr} {ws : List Wr} (h : RdWk w ok p ws) (hi : ∀ b, ok b → ok' b) : RdWk w ok' p ws := fun h0 => by
  obtain ⟨b, o, e, hk, hc⟩ := h h0
  refine ⟨b, o, e, hi _ hk, fun i x hx => ?_⟩
  obtain ⟨h1, q, c, h2, h3, h4, h5, h6⟩ := hc i x hx
  exact ⟨h1, q, c, h2, h3, h4, fun h0 a ha => hi _ (h5 h0 a ha), h6⟩
/-- A row of one's own, read as writes. -/
theorem rdWk_of_row {w : World} {B n c : Nat} {e : TypeId} {q : Option Addr} {cells : List Value} {ws : List Wr} {ok : Nat → Prop} (h : w.ownsRow B e 2 (.slice q n c) ws.length cells) (hr : WetRow w ok cells ws) (hq : ∀ a, q = some a → ok a.block) : RdWk w ok q ws := fun h0 => by
  obtain ⟨g, rfl, _, _, _, _, hc⟩ := ownsRow_head h h0
  refine ⟨g, 0, rfl, hq _ rfl, fun i x hx => ?_⟩
  obtain ⟨h1, q, c, h2, h3, h4, h5, h6⟩ := hr i x hx
  rw [Nat.zero_add]
  exact ⟨(hc _ _ h1).1, q, c, (hc _ _ h2).1, h3, h4, h5, h6⟩
/-- A disk whose octets are the call's own; all lies in blocks that are ok. -/
structure NewAt (w : World) (B : Nat) (ok : Nat → Prop) (vd vq : Value) (d : Dk) : Prop where
  (dry : Own .u8 5 w B vd d.dry)
  (okd : ∀ b, vd.ownBlock = some b → ok b)
  (wet : ∃ q e, vq = .slice q d.wet.length e ∧ d.wet.length ≤ e ∧ e ≤ maxLen ∧ RdWk w ok q d.wet)
theorem NewAt.grown {w w' : World} {B r : Nat} {ok : Nat → Prop} {vd vq : Value} {d : Dk} (h : NewAt w B ok vd vq d) (hg : w.grownBy w' (some r)) (hr : ¬ ok r) : NewAt w' B ok vd vq d :=
  ⟨h.dry.kept hg (by
    cases hv : vd.ownBlock with
    | none => exact .inl rfl
    | some b => exact .inr fun e => hr (by have := h.okd b hv; rw [Option.some.inj e] at this; exact this)), h.okd, by
    obtain ⟨q, e, h1, h2, h3, h4⟩ := h.wet
    exact ⟨q, e, h1, h2, h3, h4.grown hg hr⟩⟩
theorem NewAt.imp {w : World} {B B' : Nat} {ok ok' : Nat → Prop} {vd vq : Value} {d : Dk} (h : NewAt w B ok vd vq d) (hB : B' ≤ B) (hi : ∀ b, ok b → ok' b) : NewAt w B' ok' vd vq d :=
  ⟨h.dry.base hB, fun b hb => hi b (h.okd b hb), by obtain ⟨q, e, h1, h2, h3, h4⟩ := h.wet; exact ⟨q, e, h1, h2, h3, h4.imp hi⟩⟩
theorem NewAt.below {w w' : World} {B : Nat} {ok : Nat → Prop} {vd vq : Value} {d : Dk} (h : NewAt w B ok vd vq d) (hb : Below w.heap.size w w') : NewAt w' B ok vd vq d :=
  ⟨h.dry.below hb, h.okd, by obtain ⟨q, e, h1, h2, h3, h4⟩ := h.wet; exact ⟨q, e, h1, h2, h3, h4.below hb⟩⟩
theorem ownsRow_lims {w : World} {B size n c : Nat} {e : TypeId} {q : Option Addr} {xs : List Value} (h : w.ownsRow B e size (.slice q n c) n xs) : n ≤ c ∧ c ≤ maxLen ∧ ∀ a, q = some a → B ≤ a.block := by
  rcases h.2 with ⟨e, hn⟩ | ⟨g', cap, cur, e, hb, _, h1, h2, _⟩
  · injection e with e1 e2 e3
    subst e1 e3
    exact ⟨by omega, by simp [maxLen], by simp⟩
  · injection e with e1 e2 e3
    subst e1 e3
    exact ⟨h1, h2, fun a ha => by obtain rfl := Option.some.inj ha; exact hb⟩
theorem OwnDk.new {w : World} {lo mid hi g cd : Nat} {q : Option Addr} {e : Nat} {cells : List Value} {d : Dk} (h : OwnDk w lo mid hi g cd q e cells d) : NewAt w mid (fun b => b < lo ∨ mid ≤ b) (.slice (some ⟨g, 0, none⟩) d.dry.length cd) (.slice q d.wet.length e) d := by
  have hg := h.dry.ge
  have hl := h.lt
  have hw := ownsRow_lims h.wet
  exact ⟨h.dry, fun b hb => .inr (by simp [Value.ownBlock] at hb; omega), q, e, rfl, hw.1, hw.2.1, rdWk_of_row h.wet (h.row.imp fun b hb => by omega) fun a ha => .inr (hw.2.2 a ha)⟩
theorem NewAt.same {w : World} {B : Nat} {ok : Nat → Prop} {vd vq : Value} {d d' : Dk} (h : NewAt w B ok vd vq d) (h1 : d'.dry = d.dry) (h2 : d'.wet = d.wet) : NewAt w B ok vd vq d' :=
  ⟨by rw [h1]; exact h.dry, h.okd, by rw [h2]; exact h.wet⟩
/-- What was so below mid is so still, but for one block. -/
structure KeepsAt (mid T : Nat) (w w' : World) : Prop where
  (os : w'.os = w.os) (tape : w'.tape = w.tape) (output : w'.output = w.output) (size : w.heap.size ≤ w'.heap.size)
  (block : ∀ k, k < mid → k ≠ T → w'.heap[k]? = w.heap[k]?)
theorem KeepsAt.below {mid T B : Nat} {w w1 w2 : World} (h : KeepsAt mid T w1 w2) (hb : Below B w w1) (hB : B ≤ mid) (hT : B ≤ T) : Below B w w2 :=
  ⟨h.os.trans hb.os, h.tape.trans hb.tape, h.output.trans hb.output, Nat.le_trans hb.size h.size, fun k hk => (h.block k (by omega) (by omega)).trans (hb.block k hk)⟩
theorem KeepsAt.box {mid T R : Nat} {w w' : World} {vs : List Value} (h : KeepsAt mid T w w') (hb : BoxOf w R vs) (hR : R < mid) (hn : R ≠ T) : BoxOf w' R vs := by
  obtain ⟨t, hb⟩ := hb
  exact ⟨t, (h.block R hR hn).trans hb⟩
/-- Four stores into a box. -/
def put4 (w : World) (R : Nat) (v0 v1 v2 v3 : Value) : World := (((w.setCell ⟨R, 0, none⟩ v0).setCell ⟨R, 1, none⟩ v1).setCell ⟨R, 2, none⟩ v2).setCell ⟨R, 3, none⟩ v3
theorem put4_box {w : World} {R : Nat} {a b c d : Value} (h : BoxOf w R [a, b, c, d]) (v0 v1 v2 v3 : Value) : BoxOf (put4 w R v0 v1 v2 v3) R [v0, v1, v2, v3] := by
  have := (((h.set 0 v0).set 1 v1).set 2 v2).set 3 v3
  simpa [put4] using this
theorem put4_grown (w : World) (R : Nat) (v0 v1 v2 v3 : Value) : w.grownBy (put4 w R v0 v1 v2 v3) (some R) :=
  grown_trans (grown_trans (grown_trans (grownBy_set w ⟨R, 0, none⟩ v0) (grownBy_set _ ⟨R, 1, none⟩ v1)) (grownBy_set _ ⟨R, 2, none⟩ v2)) (grownBy_set _ ⟨R, 3, none⟩ v3)
theorem grown_keeps {mid T r : Nat} {w w' : World} (hg : w.grownBy w' (some r)) (hr : mid ≤ r ∨ r = T) (hm : mid ≤ w.heap.size) : KeepsAt mid T w w' :=
  ⟨hg.os, hg.tape, hg.output, hg.size, fun k hk hn => hg.block k (by omega) fun e => by have := Option.some.inj e; omega⟩
theorem KeepsAt.trans {mid T : Nat} {w w1 w2 : World} (h : KeepsAt mid T w w1) (h' : KeepsAt mid T w1 w2) : KeepsAt mid T w w2 :=
  ⟨h'.os.trans h.os, h'.tape.trans h.tape, h'.output.trans h.output, Nat.le_trans h.size h'.size, fun k hk hn => (h'.block k hk hn).trans (h.block k hk hn)⟩
theorem box_two' (w : World) (a b : List Value) (t u : TypeId) : BoxOf ((w.alloc (.cells a.toArray t)).alloc (.cells b.toArray u)) w.heap.size a ∧ BoxOf ((w.alloc (.cells a.toArray t)).alloc (.cells b.toArray u)) (w.heap.size + 1) b := box_two w a b t u
theorem wpList_store_box {P : Program} {ops : Array Oper} {rest : List Oper} {o : Oper} {a : Act} {w : World} {Q : Exit → Act → World → Prop} (hgd : o.guard = none) (ty : TypeId) (x y : Operand) (ho : o.op = .store ty x y)
    (T : Nat) (vs old : List Value) (hx : a.eval x = .pointer (some ⟨T, 0, none⟩)) (hy : a.eval y = .agg vs.toArray) (hb : BoxOf w T old) (hi : (P.info? ty).map (·.size) = some vs.toArray.size) (hold : old.length = vs.length) (h1 : vs.toArray.all (·.oneCell') = true)
    (h : ∀ w', BoxOf w' T vs → w.grownBy w' (some T) → wpList P ops Q rest (a.put o.dst undef) w') : wpList P ops Q (o :: rest) a w := by
  obtain ⟨t, hb⟩ := hb
  refine wpList_store_row hgd ty x y ho T vs.toArray hx hy t old.toArray hb hi (by simpa using hold) h1 (h _ ⟨t, setRow_heap w T _ _ t _ hb⟩ ⟨rfl, rfl, rfl, by simp [World.setRow], fun j _ hne => setRow_other w T j _ (fun e => hne (by rw [e]))⟩)
theorem wpList_load_box {P : Program} {ops : Array Oper} {rest : List Oper} {o : Oper} {a : Act} {w : World} {Q : Exit → Act → World → Prop} (hgd : o.guard = none) (ty : TypeId) (x : Operand) (ho : o.op = .load ty x)
    (T : Nat) (vs : List Value) (hx : a.eval x = .pointer (some ⟨T, 0, none⟩)) (hb : BoxOf w T vs) (d : TypeDesc)
    (hu : P.underlying ty = some d) (hd : (match d with | .struct _ | .array _ _ => true | _ => false) = true) (hi : (P.info? ty).map (·.size) = some vs.toArray.size)
    (h : wpList P ops Q rest (a.put o.dst (.agg vs.toArray)) w) : wpList P ops Q (o :: rest) a w := by
  obtain ⟨t, hb⟩ := hb
  exact wpList_load_row hgd ty x ho T hx t vs.toArray (0, 0) d hb hu hd hi h
theorem one4 {w : World} {B : Nat} {ok : Nat → Prop} {vd vq : Value} {d : Dk} (h : NewAt w B ok vd vq d) (f : Int) (b : Bool) : ([vd, vq, .int .i64 f, .bool b] : List Value).toArray.all (·.oneCell') = true := by
  obtain ⟨q, e, rfl, _⟩ := h.wet
  rcases h.dry.2 with ⟨rfl, _⟩ | ⟨g, cap, cur, rfl, _⟩
  all_goals simp [Value.oneCell']
def deedD (act : Dk → Dk) (d : Dk) : Dk := if d.fuse = 0 then { d with dead := true } else { act d with fuse := (if d.fuse = -1 then -1 else d.fuse - 1), dead := d.dead }
def deedE (d : Dk) : Int := if d.fuse = 0 then 11 else 0
set_option maxRecDepth 100000 in
set_option maxHeartbeats 4000000 in
theorem deed_any (p : Option Addr) (c : Nat) (q : Option Addr) (e : Nat) (d : Dk) (w0 w : World) (gf : Nat) (lb : Array Value) (act : Dk → Dk) (h : DkAt w0 p c q e d) (hb0 : Below w0.heap.size w0 w) (hbig : DkBig d) (h0 : 0 < d.dry.length) (eg : Enters Try.prog gf)
    (hf1 : -1 ≤ d.fuse) (hf2 : d.fuse ≤ 1073741824)
    (hdoes : ∀ W hi g cd q e cells f, OwnDk W w0.heap.size (w.heap.size + 2) hi g cd q e cells d → BoxOf W w.heap.size [.slice (some ⟨g, 0, none⟩) d.dry.length cd, .slice q d.wet.length e, .int .i64 f, .bool d.dead] → Below w.heap.size w W → w.heap.size + 2 ≤ W.heap.size →
      Calls Try.prog gf (#[.pointer (some ⟨w.heap.size, 0, none⟩)] ++ lb) W fun e' W' => e' = .returned (.tuple #[]) ∧ KeepsAt (w.heap.size + 2) w.heap.size W W' ∧ ∃ vd vq, BoxOf W' w.heap.size [vd, vq, .int .i64 f, .bool d.dead] ∧ NewAt W' (w.heap.size + 2) (fun b => b < w0.heap.size ∨ w.heap.size + 2 ≤ b) vd vq (act d)) :
    Calls Try.prog 71 #[dkV p c q e d, .func (.func gf) #[] lb] w fun e' w' => ∃ vd vq, e' = .returned (.tuple #[.agg #[vd, vq, .int .i64 (deedD act d).fuse, .bool (deedD act d).dead], .int .i64 (deedE d)]) ∧
      NewAt w' w.heap.size (fun b => b < w0.heap.size ∨ w.heap.size ≤ b) vd vq (deedD act d) ∧ Below w.heap.size w w' := by
  unfold Enters at eg
  have hW : ∀ O1 O2, Below w.heap.size w ((w.alloc O1).alloc O2) := fun O1 O2 => (below_new w O1).alloc (by simp) O2
  have HW := Lib.hid hW
  have HD := Lib.hid hdoes
  have H := Lib.hid h
  have HB0 := Lib.hid hb0
  have hlo := hb0.size
  clear h hW hb0 hdoes
  go_enter Try.func71, Try.ntmps71
  go_wp2_with fail
  refine (own_any p c q e d w0 _ H.out (HB0.out.trans ((HW.out _ _).mono HB0.out.size)) hbig h0).mono ?_
  rintro e' w2 ⟨hi, g, cd, q2, c2, cells, rfl, od, hb2⟩
  have hs : ((w.alloc (.cells #[.slice p d.dry.length c, .slice q d.wet.length e, .int .i64 d.fuse, .bool d.dead] 44)).alloc (.cells #[.slice none 0 0, .slice none 0 0, .int .i64 0, .bool false] 44)).heap.size = w.heap.size + 2 := by simp
  have hbb : Below w.heap.size w w2 := bel2 (HW.out _ _) hb2
  have hs2 := hb2.size
  rw [hs] at od hs2
  have b1 : BoxOf w2 w.heap.size [.slice p d.dry.length c, .slice q d.wet.length e, .int .i64 d.fuse, .bool d.dead] := (box_two' w [.slice p d.dry.length c, .slice q d.wet.length e, .int .i64 d.fuse, .bool d.dead] [.slice none 0 0, .slice none 0 0, .int .i64 0, .bool false] _ _).1.below hb2
  have b2 : BoxOf w2 (w.heap.size + 1) [.slice none 0 0, .slice none 0 0, .int .i64 0, .bool false] := (box_two' w [.slice p d.dry.length c, .slice q d.wet.length e, .int .i64 d.fuse, .bool d.dead] [.slice none 0 0, .slice none 0 0, .int .i64 0, .bool false] _ _).2.below hb2
  have ways : (d.fuse = 0 ∧ (d.fuse == 0) = true) ∨ (d.fuse = -1 ∧ (d.fuse == 0) = false ∧ (d.fuse == -1) = true) ∨ (0 < d.fuse ∧ (d.fuse == 0) = false ∧ (d.fuse == -1) = false) := by
    simp only [beq_iff_eq, beq_eq_false_iff_ne]; omega
  have hqw := ownsRow_lims od.wet
  have hgw := od.dry.ge
  have hll := od.lt
  have OD := Lib.hid od
  have B1 := Lib.hid b1
  have B2 := Lib.hid b2
  have BB := Lib.hid hbb
  clear od b1 b2 hbb hb2 H HB0 HW hs
  rcases ways with ⟨w1, w2'⟩ | ⟨w1, w2', w3'⟩ | ⟨w1, w2', w3'⟩
  · have HW1 := Lib.hid w1
    clear w1
    go_wp2_with (first
      | (refine wpList_store_box rfl 44 (.tmp 2) (.tmp 7) (by rfl) w.heap.size [.slice (some ⟨g, 0, none⟩) d.dry.length cd, .slice q2 d.wet.length c2, .int .i64 d.fuse, .bool d.dead] _ (by rfl) (by rfl) B1.out (by kernel_rfl) rfl (by simp [Value.oneCell']) ?_; intro w3 x1 g1; have k2 := (x1.get 2 _ rfl).1; have k3 := (x1.get 3 _ rfl).1; have i3 := (x1.get 3 _ rfl).2)
      | (refine wpList_load_box rfl 44 (.tmp 2) (by rfl) w.heap.size [.slice (some ⟨g, 0, none⟩) d.dry.length cd, .slice q2 d.wet.length c2, .int .i64 d.fuse, .bool true] (by rfl) (x1.set 3 (.bool true)) _ Try.underlying44 rfl (by kernel_rfl) ?_)
      | (refine wpList_store_box rfl 44 (.tmp 4) (.tmp 17) (by rfl) (w.heap.size + 1) [.slice (some ⟨g, 0, none⟩) d.dry.length cd, .slice q2 d.wet.length c2, .int .i64 d.fuse, .bool true] _ (by rfl) (by rfl) ((B2.out.grown g1 (by omega)).setOther _ _ (by show w.heap.size + 1 ≠ w.heap.size; omega)) (by kernel_rfl) rfl (by simp [Value.oneCell']) ?_; intro w5 x2 g2))
    refine ret_disk_tmp rfl rfl x2 rfl ?_
    have e1 : deedD act d = { d with dead := true } := if_pos HW1.out
    have e2 : deedE d = 11 := if_pos HW1.out
    rw [e1, e2]
    have n1 := ((((OD.out.new).grown g1 (by omega)).grown (grownBy_set w3 ⟨w.heap.size, 3, none⟩ (.bool true)) (by show ¬ (w.heap.size < _ ∨ _ ≤ w.heap.size); omega)).grown g2 (by omega)).same (d' := { d with dead := true }) rfl rfl
    have b3 := BB.out.grown g1 BB.out.size (fun k hk => by have := Option.some.inj hk; omega)
    have b4 := b3.setCell (p := ⟨w.heap.size, 3, none⟩) (by show w.heap.size ≤ w.heap.size; omega) (.bool true)
    have b5 := b4.grown g2 b4.size (fun k hk => by have := Option.some.inj hk; omega)
    exact ⟨_, _, rfl, n1.imp (by omega) (fun b hb => by omega), b5⟩
  · have HW1 := Lib.hid w1
    clear w1
    go_wp2_with (first
      | (refine wpList_store_box rfl 44 (.tmp 2) (.tmp 7) (by rfl) w.heap.size [.slice (some ⟨g, 0, none⟩) d.dry.length cd, .slice q2 d.wet.length c2, .int .i64 d.fuse, .bool d.dead] _ (by rfl) (by rfl) B1.out (by kernel_rfl) rfl (by simp [Value.oneCell']) ?_; intro w3 x1 g1; have k2 := (x1.get 2 _ rfl).1; have b3 := BB.out.grown g1 BB.out.size (fun k hk => by have := Option.some.inj hk; omega); have hs3 := Nat.le_trans hs2 g1.size)
      | (refine (HD.out w3 hi g cd q2 c2 cells d.fuse (OD.out.grown g1 hlo (by omega) (by omega) (fun a ha => by have := hqw.2.2 a ha; omega)) x1 b3 hs3).mono ?_; rintro e' w4 ⟨rfl, kp, vd, vq, xb, na⟩; have x5 := kp.box (B2.out.grown g1 (by omega)) (by omega) (by omega))
      | (refine wpList_load_box rfl 44 (.tmp 2) (by rfl) w.heap.size [vd, vq, .int .i64 d.fuse, .bool d.dead] (by rfl) xb _ Try.underlying44 rfl (by kernel_rfl) ?_)
      | (refine wpList_store_box rfl 44 (.tmp 4) (.tmp 22) (by rfl) (w.heap.size + 1) [vd, vq, .int .i64 d.fuse, .bool d.dead] _ (by rfl) (by rfl) x5 (by kernel_rfl) rfl (by first | (simp [Value.oneCell']; done) | exact one4 na _ _) ?_; intro w5 x2 g2))
    refine ret_disk_tmp rfl rfl x2 rfl ?_
    have e0 : d.fuse ≠ 0 := by have := HW1.out; omega
    have e1 : deedD act d = { act d with fuse := -1, dead := d.dead } := by unfold deedD; rw [if_neg e0, if_pos HW1.out]
    have e2 : deedE d = 0 := if_neg e0
    rw [e1, e2]
    have n1 := (na.grown g2 (by omega)).same (d' := { act d with fuse := -1, dead := d.dead }) rfl rfl
    have b4 := kp.below b3 (by omega) (Nat.le_refl _)
    have b5 := b4.grown g2 b4.size (fun k hk => by have := Option.some.inj hk; omega)
    exact ⟨_, _, by rw [HW1.out]; rfl, n1.imp (by omega) (fun b hb => by omega), b5⟩
  · have HW1 := Lib.hid w1
    have hfz : d.fuse - 1 ≤ 1073741823 := by omega
    go_wp2_with (first
      | (refine wpList_store_box rfl 44 (.tmp 2) (.tmp 7) (by rfl) w.heap.size [.slice (some ⟨g, 0, none⟩) d.dry.length cd, .slice q2 d.wet.length c2, .int .i64 d.fuse, .bool d.dead] _ (by rfl) (by rfl) B1.out (by kernel_rfl) rfl (by simp [Value.oneCell']) ?_; intro w3 x1 g1; have k2 := (x1.get 2 _ rfl).1; have i2 := (x1.get 2 _ rfl).2; have b3 := BB.out.grown g1 BB.out.size (fun k hk => by have := Option.some.inj hk; omega); have hs3 := Nat.le_trans hs2 g1.size; have b4 := b3.setCell (p := ⟨w.heap.size, 2, none⟩) (by show w.heap.size ≤ w.heap.size; omega) (.int .i64 (d.fuse - 1)); have g3 := grown_trans g1 (grownBy_set w3 ⟨w.heap.size, 2, none⟩ (.int .i64 (d.fuse - 1))); have x3 : BoxOf (w3.setCell ⟨w.heap.size, 2, none⟩ (.int .i64 (d.fuse - 1))) w.heap.size _ := x1.set 2 (.int .i64 (d.fuse - 1)))
      | (refine (HD.out (w3.setCell ⟨w.heap.size, 2, none⟩ (.int .i64 (d.fuse - 1))) hi g cd q2 c2 cells (d.fuse - 1) (OD.out.grown g3 hlo (by omega) (by omega) (fun a ha => by have := hqw.2.2 a ha; omega)) x3 b4 (by simpa using hs3)).mono ?_; rintro e' w4 ⟨rfl, kp, vd, vq, xb, na⟩; have x5 := kp.box (B2.out.grown g3 (by omega)) (by omega) (by omega))
      | (refine wpList_load_box rfl 44 (.tmp 2) (by rfl) w.heap.size [vd, vq, .int .i64 (d.fuse - 1), .bool d.dead] (by rfl) xb _ Try.underlying44 rfl (by kernel_rfl) ?_)
      | (refine wpList_store_box rfl 44 (.tmp 4) (.tmp 22) (by rfl) (w.heap.size + 1) [vd, vq, .int .i64 (d.fuse - 1), .bool d.dead] _ (by rfl) (by rfl) x5 (by kernel_rfl) rfl (by first | (simp [Value.oneCell']; done) | exact one4 na _ _) ?_; intro w5 x2 g2))
    refine ret_disk_tmp rfl rfl x2 rfl ?_
    have e0 : d.fuse ≠ 0 := by have := HW1.out; omega
    have e1 : deedD act d = { act d with fuse := d.fuse - 1, dead := d.dead } := by unfold deedD; rw [if_neg e0, if_neg (by omega)]
    have e2 : deedE d = 0 := if_neg e0
    rw [e1, e2]
    have n1 := (na.grown g2 (by omega)).same (d' := { act d with fuse := d.fuse - 1, dead := d.dead }) rfl rfl
    have b4 := kp.below b4 (by omega) (Nat.le_refl _)
    have b5 := b4.grown g2 b4.size (fun k hk => by have := Option.some.inj hk; omega)
    exact ⟨_, _, rfl, n1.imp (by omega) (fun b hb => by omega), b5⟩
end Go.Proofs.Ytnmgiiaejpaeeaa
