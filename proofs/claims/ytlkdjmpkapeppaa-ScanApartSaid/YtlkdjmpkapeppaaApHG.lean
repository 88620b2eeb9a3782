/- Appends of hits to rows of the call's own. -/
import Derived.Test.YtlkdjmpkapeppaaG3
namespace Go.Proofs.Ytlkdjmpkapeppaa
set_option linter.unusedVariables false
set_option linter.unusedSimpArgs false
open Go.RowKit Go.Shelf
variable {ops : Array Oper} {X : List Nat} {w0 w : World} {m0 m : Mem} {es : List Ent} {o : Oper} {a : Act} {K : Act → World → Prop} {Q : Exit → Act → World → Prop}
variable {rest : List Oper} {dst : Option Tmp} {rt : TypeId} {pos : String} {af : Array Edge} {E : Prop} {g : Nat × Bool}
theorem cellsH_append (l r : List Hit) : cellsH l ++ cellsH r = cellsH (l ++ r) := by simp [cellsH]
theorem op_appH_nil (hS : St X w0 m0 w es m) {s x : Operand} (ho : o.op = .call { callee := .builtin .append, args := #[s, x], argTypes := #[24, 24] }) {xv : Value} {ys : List Hit} {n : Nat} (hs : a.eval s = .slice none 0 0) (hx : a.eval x = xv) (hr : hitL.list.rd m [xv] ys) (hn : ys.length = n)
    (h : ∀ w' q c, St X w0 m0 w' (rowQ q c n (cellsH ys) :: es) m → K (a.put o.dst (.slice q n c)) w') : o.wp Try.prog a w K Q := by
  subst hn
  refine op_appendL_nil (L := hitL) hS el_hit s x ho hs hx hr (by decide) fun w' q c news hc hw => ?_
  obtain ⟨rfl, _⟩ := cellsOf_hits hc
  exact h _ _ _ hw
theorem op_appH (hS : St X w0 m0 w es m) {s x : Operand} (ho : o.op = .call { callee := .builtin .append, args := #[s, x], argTypes := #[24, 24] }) {v xv : Value} {l ys : List Hit} {n n' : Nat} {f : Value → Nat → List Value → List Ent} (hs : a.eval s = v) (hi : RowAt es 30 2 v n (cellsH l) f) (hx : a.eval x = xv) (hr : hitL.list.rd m [xv] ys) (hn : n + ys.length = n') (hb : n' ≤ 100000)
    (h : ∀ w' q c, St X w0 m0 w' (f (.slice q n' c) n' (cellsH (l ++ ys))) m → K (a.put o.dst (.slice q n' c)) w') : o.wp Try.prog a w K Q := by
  subst hn
  refine op_appendL (L := hitL) hS el_hit s x ho hs hi hx hr (by show _ * 16 ≤ _; omega) (by decide) fun w' q c news hc hw => ?_
  obtain ⟨rfl, _⟩ := cellsOf_hits hc
  rw [cellsH_append] at hw
  exact h _ _ _ hw
theorem op_appH1 (hS : St X w0 m0 w es m) {s x : Operand} (ho : o.op = .call { callee := .builtin .append, args := #[s, x], argTypes := #[24, 24] }) {v : Value} {l : List Hit} {n b c : Nat} {d i : Int} {f : Value → Nat → List Value → List Ent} (hs : a.eval s = v) (hi : RowAt es 30 2 v n (cellsH l) f) (hx : a.eval x = .slice (some ⟨b, 0, none⟩) 1 c) (hM : Ent.box b [.int .i64 d, .int .i64 i] ∈ es) (hb : n ≤ 100000)
    (h : ∀ w' q c, St X w0 m0 w' (f (.slice q (n + 1) c) (n + 1) (cellsH (l ++ [⟨d, i⟩]))) m → K (a.put o.dst (.slice q (n + 1) c)) w') : o.wp Try.prog a w K Q := by
  refine op_appendB hS el_hit s x ho hs hi hx hM rfl (by simp [Value.oneCell']) (by show _ * 16 ≤ _; omega) (by decide) fun w' q c hw => ?_
  have := cellsH_snoc l ⟨d, i⟩
  simp only at this
  rw [this] at hw
  exact h _ _ _ hw
theorem wl_appH_nil (hS : St X w0 m0 w es m) {s x : Operand} {xv : Value} {ys : List Hit} {n : Nat} (hs : a.eval s = .slice none 0 0) (hx : a.eval x = xv) (hr : hitL.list.rd m [xv] ys) (hn : ys.length = n)
    (h : ∀ w' q c, St X w0 m0 w' (rowQ q c n (cellsH ys) :: es) m → wpList Try.prog ops Q rest (a.put dst (.slice q n c)) w') : Wl Try.prog ops Q (⟨dst, .call { callee := .builtin .append, args := #[s, x], argTypes := #[24, 24] }, rt, pos, af, none⟩ :: rest) a w :=
  ⟨wpList_plain rfl fun K hK => op_appH_nil hS rfl hs hx hr hn fun w' q c hw => hK _ _ (h w' q c hw)⟩
theorem wl_appH (hS : St X w0 m0 w es m) {s x : Operand} {v xv : Value} {l ys : List Hit} {n n' : Nat} {f : Value → Nat → List Value → List Ent} (hs : a.eval s = v) (hi : RowAt es 30 2 v n (cellsH l) f) (hx : a.eval x = xv) (hr : hitL.list.rd m [xv] ys) (hn : n + ys.length = n') (hb : n' ≤ 100000)
    (h : ∀ w' q c, St X w0 m0 w' (f (.slice q n' c) n' (cellsH (l ++ ys))) m → wpList Try.prog ops Q rest (a.put dst (.slice q n' c)) w') : Wl Try.prog ops Q (⟨dst, .call { callee := .builtin .append, args := #[s, x], argTypes := #[24, 24] }, rt, pos, af, none⟩ :: rest) a w :=
  ⟨wpList_plain rfl fun K hK => op_appH hS rfl hs hi hx hr hn hb fun w' q c hw => hK _ _ (h w' q c hw)⟩
theorem wl_appH1 (hS : St X w0 m0 w es m) {s x : Operand} {v : Value} {l : List Hit} {n b c : Nat} {d i : Int} {f : Value → Nat → List Value → List Ent} (hs : a.eval s = v) (hi : RowAt es 30 2 v n (cellsH l) f) (hx : a.eval x = .slice (some ⟨b, 0, none⟩) 1 c) (hM : Ent.box b [.int .i64 d, .int .i64 i] ∈ es) (hb : n ≤ 100000)
    (h : ∀ w' q c, St X w0 m0 w' (f (.slice q (n + 1) c) (n + 1) (cellsH (l ++ [⟨d, i⟩]))) m → wpList Try.prog ops Q rest (a.put dst (.slice q (n + 1) c)) w') : Wl Try.prog ops Q (⟨dst, .call { callee := .builtin .append, args := #[s, x], argTypes := #[24, 24] }, rt, pos, af, none⟩ :: rest) a w :=
  ⟨wpList_plain rfl fun K hK => op_appH1 hS rfl hs hi hx hM hb fun w' q c hw => hK _ _ (h w' q c hw)⟩
theorem s_appH_nil (hS : St X w0 m0 w es m) {s x : Operand} {xv : Value} {ys : List Hit} {n : Nat} (hs : a.eval s = .slice none 0 0) (hx : a.eval x = xv) (hr : hitL.list.rd m [xv] ys) (hn : ys.length = n)
    (h : ∀ w' q c, St X w0 m0 w' (rowQ q c n (cellsH ys) :: es) m → K (a.put dst (.slice q n c)) w') : if Region.wanted ⟨dst, .call { callee := .builtin .append, args := #[s, x], argTypes := #[24, 24] }, rt, pos, af, none⟩ (yielded ops a.tmps) = true then Oper.wp Try.prog ⟨dst, .call { callee := .builtin .append, args := #[s, x], argTypes := #[24, 24] }, rt, pos, af, none⟩ a w K Q else E :=
  step_of rfl (op_appH_nil hS rfl hs hx hr hn h)
theorem s_appH1 (hS : St X w0 m0 w es m) {s x : Operand} {v : Value} {l : List Hit} {n b c : Nat} {d i : Int} {f : Value → Nat → List Value → List Ent} (hs : a.eval s = v) (hi : RowAt es 30 2 v n (cellsH l) f) (hx : a.eval x = .slice (some ⟨b, 0, none⟩) 1 c) (hM : Ent.box b [.int .i64 d, .int .i64 i] ∈ es) (hb : n ≤ 100000)
    (h : ∀ w' q c, St X w0 m0 w' (f (.slice q (n + 1) c) (n + 1) (cellsH (l ++ [⟨d, i⟩]))) m → K (a.put dst (.slice q (n + 1) c)) w') : if Region.wanted ⟨dst, .call { callee := .builtin .append, args := #[s, x], argTypes := #[24, 24] }, rt, pos, af, none⟩ (yielded ops a.tmps) = true then Oper.wp Try.prog ⟨dst, .call { callee := .builtin .append, args := #[s, x], argTypes := #[24, 24] }, rt, pos, af, none⟩ a w K Q else E :=
  step_of rfl (op_appH1 hS rfl hs hi hx hM hb h)
/-- A row of the call's own is let be. -/
theorem St.settleH {q : Option Addr} {c n : Nat} {l : List Hit} (hS : St X w0 m0 w (rowQ q c n (cellsH l) :: es) m) (hn : l.length = n) (hi : HitsIn l) (hb : n ≤ 100000) : ∃ m', St X w0 m0 w es m' ∧ m.Le m' ∧ hitL.list.rd m' [.slice q n c] l := by
  subst hn
  exact St.settleRow' (L := hitL) hS 0 rfl rfl (hits_cellsOf m hi) (by show _ * 16 ≤ _; omega)
end Go.Proofs.Ytlkdjmpkapeppaa
