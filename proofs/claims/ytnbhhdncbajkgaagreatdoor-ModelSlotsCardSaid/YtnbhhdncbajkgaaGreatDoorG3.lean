/- Contracts and plain laws that the laws' proofs use, laid together (part 3). -/
import Derived.Test.YtnbhhdncbajkgaaGreatDoorG2
import Derived.Shelf.Abstract
import Derived.Maps.Own
import Derived.Maps.OwnOps
import Derived.Maps.Views
import Derived.RangeFuncNested
import Derived.RangeFuncBound
import Derived.RangeFuncCalls
import Derived.RangeFuncLeaves
import Derived.Shelf.RegionOpen
import Derived.WalkKit
import Derived.OwnWalkIn
import Derived.TacticsInMore
import Derived.LoopNIn
import Derived.LoopIn
import Derived.Sort.Grow
import Derived.Deep.Draws
import Derived.Shelf.SlSortCmp.WholeK
import Derived.Shelf.SlSortCmp.NoneTotal
/- A method called through an interface: a rule of the walk. -/
namespace Go.Proofs.YtnbhhdncbajkgaaGreatDoor
set_option linter.unusedVariables false
set_option linter.unusedSimpArgs false
open Go.RowKit Go.Shelf
variable {ops : Array Oper} {P : Program} {X : List Nat} {w0 w : World} {m0 m : Mem} {es : List Ent} {o : Oper} {a : Act} {K : Act → World → Prop} {Q : Exit → Act → World → Prop}
variable {rest : List Oper} {dst : Option Tmp} {rt : TypeId} {pos : String} {af : Array Edge} {E : Prop} {g : Nat × Bool}
theorem op_invoke {x : Operand} {name : String} {args : Array Operand} {ats : Array TypeId} {t : TypeId} {v recv : Value} {f : FuncId} {l : List Value} (ho : o.op = .call { callee := .invoke x name, args := args, argTypes := ats }) (hx : a.eval x = .iface t v)
    (hm : (method (P.types.size + Made.depth) t v name).run P w = .ok (f, recv) w) (he : Enters P f) (has : recv :: args.toList.map a.eval = l) (h : Calls P f l.toArray w fun e w' => ∃ v, e = .returned v ∧ K (a.put o.dst v) w') : o.wp P a w K Q := by
  have hrun : (execOp a.eval o).run P w = .ok (.enter f l.toArray) w := by
    unfold execOp
    simp only [ho, resolve, Sem.run_bind, Sem.run_pure, Result.andThen_ok, hx, invoke, callMethod]
    have e0 : (#[Value.iface t v] ++ args.map a.eval)[0]? = some (Value.iface t v) := by rw [Array.getElem?_append_left (by simp)]; rfl
    have e1 : (#[Value.iface t v] ++ args.map a.eval).extract 1 (#[Value.iface t v] ++ args.map a.eval).size = args.map a.eval := by
      simp [Array.extract_append]
    simp only [e0, e1, Sem.run_bind, run_program, Result.andThen_ok, hm]
    have e2 : #[recv] ++ args.map a.eval = l.toArray := by
      rw [← has]
      apply Array.ext'
      simp
    rw [e2]
    exact he _ w
  unfold Oper.wp
  rw [hrun]
  show Calls P f l.toArray w _
  refine h.mono fun e w' hh => ?_
  obtain ⟨v, rfl, hk⟩ := hh
  exact hk
theorem wl_invoke {x : Operand} {name : String} {args : Array Operand} {ats : Array TypeId} {t : TypeId} {v recv : Value} {f : FuncId} {l : List Value} (hx : a.eval x = .iface t v)
    (hm : (method (P.types.size + Made.depth) t v name).run P w = .ok (f, recv) w) (he : Enters P f) (has : recv :: args.toList.map a.eval = l) (h : Calls P f l.toArray w fun e w' => ∃ v, e = .returned v ∧ wpList P ops Q rest (a.put dst v) w') :
    Wl P ops Q (⟨dst, .call { callee := .invoke x name, args := args, argTypes := ats }, rt, pos, af, none⟩ :: rest) a w :=
  ⟨wpList_plain rfl fun K hK => op_invoke rfl hx hm he has (h.mono fun e w' ⟨v, e1, h1⟩ => ⟨v, e1, hK _ _ h1⟩)⟩
theorem wg_invoke {x : Operand} {name : String} {args : Array Operand} {ats : Array TypeId} {t : TypeId} {v recv : Value} {f : FuncId} {l : List Value} (hw : Region.wanted ⟨dst, .call { callee := .invoke x name, args := args, argTypes := ats }, rt, pos, af, some g⟩ (yielded ops a.tmps) = true) (hx : a.eval x = .iface t v)
    (hm : (method (P.types.size + Made.depth) t v name).run P w = .ok (f, recv) w) (he : Enters P f) (has : recv :: args.toList.map a.eval = l) (h : Calls P f l.toArray w fun e w' => ∃ v, e = .returned v ∧ wpList P ops Q rest (a.put dst v) w') :
    Wl P ops Q (⟨dst, .call { callee := .invoke x name, args := args, argTypes := ats }, rt, pos, af, some g⟩ :: rest) a w :=
  ⟨wpList_step fun K hK => step_guard hw (op_invoke rfl hx hm he has (h.mono fun e w' ⟨v, e1, h1⟩ => ⟨v, e1, hK _ _ h1⟩))⟩
theorem s_invoke {x : Operand} {name : String} {args : Array Operand} {ats : Array TypeId} {t : TypeId} {v recv : Value} {f : FuncId} {l : List Value} (hx : a.eval x = .iface t v)
    (hm : (method (P.types.size + Made.depth) t v name).run P w = .ok (f, recv) w) (he : Enters P f) (has : recv :: args.toList.map a.eval = l) (h : Calls P f l.toArray w fun e w' => ∃ v, e = .returned v ∧ K (a.put dst v) w') :
    if Region.wanted ⟨dst, .call { callee := .invoke x name, args := args, argTypes := ats }, rt, pos, af, none⟩ (yielded ops a.tmps) = true then Oper.wp P ⟨dst, .call { callee := .invoke x name, args := args, argTypes := ats }, rt, pos, af, none⟩ a w K Q else E :=
  step_of rfl (op_invoke rfl hx hm he has h)
end Go.Proofs.YtnbhhdncbajkgaaGreatDoor
/- heap.up over hits. -/
namespace Go.Proofs.YtnbhhdncbajkgaaGreatDoor
set_option linter.unusedVariables false
set_option linter.unusedSimpArgs false
open Go.RowKit Go.Shelf
theorem fuel_e : ∃ n, Tryz.prog.types.size + Made.depth = n + 1 := ⟨Tryz.prog.types.size + 99, by unfold Made.depth; omega⟩
/-- A heap that is handed on: where the slice lies, and its row. -/
abbrev esH (b g c n : Nat) (l : List Hit) : List Ent := [.box b [.slice (some ⟨g, 0, none⟩) n c], rowH g c n (cellsH l)]
abbrev pH (b : Nat) : Value := .pointer (some ⟨b, 0, none⟩)
theorem ent_len : Enters Tryz.prog 159 := enters_of Tryz.func159 (by kernel_rfl) rfl
theorem ent_less : Enters Tryz.prog 160 := enters_of Tryz.func160 (by kernel_rfl) rfl
theorem ent_swap : Enters Tryz.prog 161 := enters_of Tryz.func161 (by kernel_rfl) rfl
theorem ent_push : Enters Tryz.prog 163 := enters_of Tryz.func163 (by kernel_rfl) rfl
theorem ent_pop : Enters Tryz.prog 162 := enters_of Tryz.func162 (by kernel_rfl) rfl
section
variable {X : List Nat} {w0 w : World} {m0 m : Mem} {b g c n : Nat} {l : List Hit}
theorem St.ptrH {s : Value} {es : List Ent} (hS : St X w0 m0 w (.box b [s] :: es) m) : w.cell? ⟨b, 0, none⟩ = some s := ((hS.box 0 rfl).get 0 s rfl).1
theorem St.hitsAt (hS : St X w0 m0 w (esH b g c n l) m) : HitsAt w g l := fun j v hj => by
  have := (hS.row 1 rfl).cells (g := g) rfl j v hj
  rwa [Addr.add_lit, Nat.zero_add] at this
theorem less_m (hS : St X w0 m0 w (esH b g c n l) m) : (method (Tryz.prog.types.size + Made.depth) 132 (pH b) "Less").run Tryz.prog w = .ok (160, .slice (some ⟨g, 0, none⟩) n c) w := by
  obtain ⟨k, e⟩ := fuel_e; rw [e]; exact meth_less _ b _ w hS.ptrH
theorem swap_m (hS : St X w0 m0 w (esH b g c n l) m) : (method (Tryz.prog.types.size + Made.depth) 132 (pH b) "Swap").run Tryz.prog w = .ok (161, .slice (some ⟨g, 0, none⟩) n c) w := by
  obtain ⟨k, e⟩ := fuel_e; rw [e]; exact meth_swap _ b _ w hS.ptrH
theorem len_m {s : Value} {es : List Ent} (hS : St X w0 m0 w (.box b [s] :: es) m) : (method (Tryz.prog.types.size + Made.depth) 132 (pH b) "Len").run Tryz.prog w = .ok (159, s) w := by
  obtain ⟨k, e⟩ := fuel_e; rw [e]; exact meth_len _ b _ w hS.ptrH
theorem push_m : (method (Tryz.prog.types.size + Made.depth) 132 (pH b) "Push").run Tryz.prog w = .ok (163, pH b) w := by obtain ⟨k, e⟩ := fuel_e; rw [e]; exact meth_push _ b w
theorem pop_m : (method (Tryz.prog.types.size + Made.depth) 132 (pH b) "Pop").run Tryz.prog w = .ok (162, pH b) w := by obtain ⟨k, e⟩ := fuel_e; rw [e]; exact meth_pop _ b w
/-- Less, at a heap that is handed on. -/
theorem hless_n (hS : St X w0 m0 w (esH b g c n l) m) (hn : l.length = n) (i k : Nat) (hi : i < n) (hk : k < n) : Calls Tryz.prog 160 #[.slice (some ⟨g, 0, none⟩) n c, .int .i64 i, .int .i64 k] w fun e w' =>
    e = .returned (.bool (decide ((l.getD k hz).lt (l.getD i hz)))) ∧ St X w0 m0 w' (esH b g c n l) m := by
  subst hn
  refine (hless_c w g c l hS.hitsAt i k hi hk).mono ?_
  rintro e w' ⟨v, m', rfl, rfl, hk⟩
  exact ⟨rfl, hS.grow (grownBy_of_below hk.below)⟩
/-- Swap, at a heap that is handed on. -/
theorem hswap_n (hS : St X w0 m0 w (esH b g c n l) m) (hn : l.length = n) (i k : Nat) (hi : i < n) (hk : k < n) : Calls Tryz.prog 161 #[.slice (some ⟨g, 0, none⟩) n c, .int .i64 i, .int .i64 k] w fun e w' =>
    e = .returned (.tuple #[]) ∧ St X w0 m0 w' (esH b g c n (swapL l i k)) m := by
  subst hn
  have h1 := hS.front (x := rowH g c l.length (cellsH l)) (by (repeat constructor))
  refine (hswap_c _ w w m m g c l (St.sub (ls := [_]) h1) i k hi hk).mono ?_
  rintro e w' ⟨rfl, hk⟩
  exact ⟨rfl, (St.lendL (ls := [_]) h1 hk).front (x := .box b _) (by (repeat constructor))⟩
end
end Go.Proofs.YtnbhhdncbajkgaaGreatDoor
/- heap.up over hits. -/
namespace Go.Proofs.YtnbhhdncbajkgaaGreatDoor
set_option linter.unusedVariables false
set_option linter.unusedSimpArgs false
open Go.RowKit Go.Shelf
theorem upL_step {l : List Hit} {j : Nat} (h : (l.getD ((j - 1) / 2) hz).lt (l.getD j hz)) (h0 : 0 < j) : upL (j + 1) l j = upL ((j - 1) / 2 + 1) (swapL l ((j - 1) / 2) j) ((j - 1) / 2) := by
  have hm : ∀ f f' (l : List Hit) (j : Nat), j < f → j < f' → upL f l j = upL f' l j := by
    intro f
    induction f with
    | zero => intro f' l j h; omega
    | succ f ih =>
      intro f' l j h1 h2
      cases f' with
      | zero => omega
      | succ f' =>
        unfold upL
        split
        · exact ih f' _ _ (by omega) (by omega)
        · rfl
  rw [upL, if_pos ⟨h0, h⟩]
  exact hm _ _ _ _ (by omega) (by omega)
theorem upL_stop {l : List Hit} {j : Nat} (h : ¬ (0 < j ∧ (l.getD ((j - 1) / 2) hz).lt (l.getD j hz))) : upL (j + 1) l j = l := by rw [upL, if_neg h]
set_option maxRecDepth 100000 in
set_option maxHeartbeats 4000000 in
theorem up_c {X : List Nat} {w0 w : World} {m0 m : Mem} {b g c n : Nat} {l R : List Hit} (hS : St X w0 m0 w (esH b g c n l) m) (hn : l.length = n) (hN : n ≤ 1000) (j : Nat) (hj : j < n) (hR : upL (j + 1) l j = R) :
    Calls Tryz.prog 105 #[.iface 132 (pH b), .int .i64 j] w fun e w' => e = .returned (.tuple #[]) ∧ St X w0 m0 w' (esH b g c n R) m := by
  go_enter Tryz.func105, Tryz.ntmps105
  go_wp2_with fail
  go_loopw [1] (fun vj wr => ∃ (j : Nat) (L : List Hit), vj = .int .i64 j ∧ j < n ∧ L.length = n ∧ Hid (upL (j + 1) L j = R) ∧ St X w0 m0 wr (esH b g c n L) m) (fun vj _ => (intOf vj).toNat)
  case atStart => exact ⟨j, l, rfl, hj, hn, hR, hS⟩
  case round =>
    clear hS hn hj hR l j
    obtain ⟨j, L, rfl, hj, hL, hR, hS⟩ := hrel
    have HL := Lib.hid hL
    clear hL
    cases j with
    | zero =>
      go_wp2_with fail
      rw [upL_stop (by omega)] at hR
      obtain rfl := hR.out
      exact bodyPost_end (v := .tuple #[]) (by kernel_rfl) rfl ⟨rfl, hS⟩
    | succ k =>
      have hi : k / 2 < n := by omega
      have hne : ¬ (((k : Int) / 2) = (k : Int) + 1) := by omega
      rcases Decidable.em ((L.getD (k / 2) hz).lt (L.getD (k + 1) hz)) with hlt | hlt
      · have hR2 : Hid (upL (k / 2 + 1) (swapL L (k / 2) (k + 1)) (k / 2) = R) := by
          have := upL_step (l := L) (j := k + 1) hlt (by omega)
          exact (this.symm.trans hR.out)
        clear hR
        go_wp2_with (first | ((with_reducible refine' Wl.out ?_; apply wg_invoke (name := "Less") (l := [.slice (some ⟨g, 0, none⟩) n c, .int .i64 ((k + 1 : Nat)), .int .i64 ((k / 2 : Nat))]) (hm := less_m hS) (he := ent_less)); (· first | rfl | assumption | (go_simp; done)); (· exact rfl); (· exact rfl); refine (hless_n hS HL.out _ _ hj hi).mono ?_; clear hS; rintro e' w15 ⟨he, hS⟩; rw [decide_eq_true hlt] at he; subst he; refine ⟨_, rfl, ?_⟩) | ((with_reducible refine' Wl.out ?_; apply wl_invoke (name := "Swap") (l := [.slice (some ⟨g, 0, none⟩) n c, .int .i64 ((k / 2 : Nat)), .int .i64 ((k + 1 : Nat))]) (hm := swap_m hS) (he := ent_swap)); (· exact rfl); (· exact rfl); refine (hswap_n hS HL.out _ _ hi hj).mono ?_; clear hS; rintro e' w21 ⟨rfl, hS⟩; refine ⟨_, rfl, ?_⟩))
        go_roundw
        case rel => exact ⟨k / 2, swapL L (k / 2) (k + 1), rfl, hi, (swapL_len _ _ _).trans HL.out, hR2, hS⟩
        case measure => simp [intOf]; omega
      · rw [upL_stop (fun hh => hlt hh.2)] at hR
        obtain rfl := hR.out
        go_wp2_with (first | ((with_reducible refine' Wl.out ?_; apply wg_invoke (name := "Less") (l := [.slice (some ⟨g, 0, none⟩) n c, .int .i64 ((k + 1 : Nat)), .int .i64 ((k / 2 : Nat))]) (hm := less_m hS) (he := ent_less)); (· first | rfl | assumption | (go_simp; done)); (· exact rfl); (· exact rfl); refine (hless_n hS HL.out _ _ hj hi).mono ?_; clear hS; rintro e' w15 ⟨he, hS⟩; rw [decide_eq_false hlt] at he; subst he; refine ⟨_, rfl, ?_⟩))
        exact bodyPost_end (v := .tuple #[]) (by kernel_rfl) rfl ⟨rfl, hS⟩
end Go.Proofs.YtnbhhdncbajkgaaGreatDoor
/- heap.down over hits. -/
namespace Go.Proofs.YtnbhhdncbajkgaaGreatDoor
set_option linter.unusedVariables false
set_option linter.unusedSimpArgs false
open Go.RowKit Go.Shelf
/-- The child that is farther. -/
def kidL (l : List Hit) (i n : Nat) : Nat := if 2 * i + 2 < n ∧ (l.getD (2 * i + 1) hz).lt (l.getD (2 * i + 2) hz) then 2 * i + 2 else 2 * i + 1
theorem downL_succ (f : Nat) (l : List Hit) (i n : Nat) : downL (f + 1) l i n = if 2 * i + 1 < n then (if (l.getD i hz).lt (l.getD (kidL l i n) hz) then downL f (swapL l i (kidL l i n)) (kidL l i n) n else l) else l := rfl
theorem kidL_or (l : List Hit) (i n : Nat) : kidL l i n = 2 * i + 1 ∨ kidL l i n = 2 * i + 2 := by unfold kidL; split <;> simp
theorem downL_fuel : ∀ (f f' : Nat) (l : List Hit) (i n : Nat), n ≤ i + f → n ≤ i + f' → downL f l i n = downL f' l i n
  | 0, 0, l, i, n, _, _ => rfl
  | 0, f' + 1, l, i, n, h, _ => by rw [downL_succ, if_neg (by omega)]; rfl
  | f + 1, 0, l, i, n, _, h => by rw [downL_succ, if_neg (by omega)]; rfl
  | f + 1, f' + 1, l, i, n, h1, h2 => by
    have hk := kidL_or l i n
    rw [downL_succ, downL_succ]
    split
    · split
      · exact downL_fuel f f' _ _ _ (by omega) (by omega)
      · rfl
    · rfl
theorem downL_stop {f : Nat} {l : List Hit} {i n : Nat} (h : ¬ (2 * i + 1 < n ∧ (l.getD i hz).lt (l.getD (kidL l i n) hz))) : downL f l i n = l := by
  cases f with
  | zero => rfl
  | succ f =>
    rw [downL_succ]
    split
    · rename_i h1
      rw [if_neg (fun hh => h ⟨h1, hh⟩)]
    · rfl
theorem downL_step {f : Nat} {l : List Hit} {i n : Nat} (hf : n ≤ i + f) (h1 : 2 * i + 1 < n) (h : (l.getD i hz).lt (l.getD (kidL l i n) hz)) : downL f l i n = downL f (swapL l i (kidL l i n)) (kidL l i n) n := by
  cases f with
  | zero => omega
  | succ f =>
    have hk := kidL_or l i n
    conv => lhs; rw [downL_succ, if_pos h1, if_pos h]
    exact downL_fuel _ _ _ _ _ (by omega) (by omega)
set_option maxRecDepth 100000 in
set_option maxHeartbeats 4000000 in
theorem down_c {X : List Nat} {w0 w : World} {m0 m : Mem} {b g c n : Nat} {l R : List Hit} (hS : St X w0 m0 w (esH b g c (n + 1) l) m) (hn : l.length = n + 1) (hN : n ≤ 1000) (hR : downL (n + 1) l 0 n = R) :
    Calls Tryz.prog 106 #[.iface 132 (pH b), .int .i64 0, .int .i64 n] w fun e w' => (∃ v, e = .returned v) ∧ St X w0 m0 w' (esH b g c (n + 1) R) m := by
  go_enter Tryz.func106, Tryz.ntmps106
  go_wp2_with fail
  go_loopw [7] (fun vi wr => ∃ (i : Nat) (L : List Hit), vi = .int .i64 i ∧ i ≤ n ∧ L.length = n + 1 ∧ Hid (downL (n + 1) L i n = R) ∧ St X w0 m0 wr (esH b g c (n + 1) L) m) (fun vi _ => n - (intOf vi).toNat)
  case atStart => exact ⟨0, l, rfl, Nat.zero_le _, hn, hR, hS⟩
  case round =>
    clear hS hn hR l
    obtain ⟨i, L, rfl, hi, hL, hR, hS⟩ := hrel
    have HL := Lib.hid hL
    clear hL
    have hi' : i < n + 1 := by omega
    by_cases h1 : 2 * i + 1 < n
    · have h1' : 2 * i + 1 < n + 1 := by omega
      have hlt1 : ((2 : Int) * i + 1) < n := by omega
      have hge1 : ¬ ((2 : Int) * i + 1) < 0 := by omega
      have hkid : kidL L i n = 2 * i + 1 ∧ (¬ ((2 : Int) * i + 1 + 1) < n ∨ (2 * i + 2 < n ∧ ¬ (L.getD (2 * i + 1) hz).lt (L.getD (2 * i + 2) hz))) ∨ kidL L i n = 2 * i + 2 ∧ ((2 : Int) * i + 1 + 1) < n ∧ (L.getD (2 * i + 1) hz).lt (L.getD (2 * i + 2) hz) := by
        unfold kidL
        split
        · rename_i h; exact .inr ⟨rfl, by omega, h.2⟩
        · rename_i h
          refine .inl ⟨rfl, ?_⟩
          by_cases h2 : 2 * i + 2 < n
          · exact .inr ⟨h2, fun hh => h ⟨h2, hh⟩⟩
          · exact .inl (by omega)
      rcases hkid with ⟨hk, h2 | ⟨h2, h3⟩⟩ | ⟨hk, h2, h3⟩
      · skip
        skip
        by_cases hlt : (L.getD i hz).lt (L.getD (2 * i + 1) hz)
        · have hR2 : Hid (downL (n + 1) (swapL L i (2 * i + 1)) (2 * i + 1) n = R) := by
            have := downL_step (f := n + 1) (by omega) h1 (by rw [hk]; exact hlt)
            rw [hk] at this
            exact this.symm.trans hR.out
          clear hR hk
          go_wp2_with (first  | ((with_reducible refine' Wl.out ?_; apply wl_invoke (name := "Less") (l := [.slice (some ⟨g, 0, none⟩) (n + 1) c, .int .i64 (2 * i + 1 : Nat), .int .i64 (i : Nat)]) (hm := less_m hS) (he := ent_less)); (· exact rfl); (· exact rfl); refine (hless_n hS HL.out _ _ h1' hi').mono ?_; clear hS; rintro e' wl ⟨he, hS⟩; rw [decide_eq_true hlt] at he; subst he; refine ⟨_, rfl, ?_⟩) | ((with_reducible refine' Wl.out ?_; apply wl_invoke (name := "Swap") (l := [.slice (some ⟨g, 0, none⟩) (n + 1) c, .int .i64 (i : Nat), .int .i64 (2 * i + 1 : Nat)]) (hm := swap_m hS) (he := ent_swap)); (· exact rfl); (· exact rfl); refine (hswap_n hS HL.out _ _ hi' h1').mono ?_; clear hS; rintro e' wl ⟨rfl, hS⟩; refine ⟨_, rfl, ?_⟩))
          go_roundw
          case rel => exact ⟨2 * i + 1, swapL L i (2 * i + 1), by first | rfl | (congr 1; omega), by omega, (swapL_len _ _ _).trans HL.out, hR2, hS⟩
          case measure => simp [intOf]; omega
        · rw [downL_stop (fun hh => hlt (by rw [← hk]; exact hh.2))] at hR
          obtain rfl := hR.out
          clear hR hk
          go_wp2_with (first  | ((with_reducible refine' Wl.out ?_; apply wl_invoke (name := "Less") (l := [.slice (some ⟨g, 0, none⟩) (n + 1) c, .int .i64 (2 * i + 1 : Nat), .int .i64 (i : Nat)]) (hm := less_m hS) (he := ent_less)); (· exact rfl); (· exact rfl); refine (hless_n hS HL.out _ _ h1' hi').mono ?_; clear hS; rintro e' wl ⟨he, hS⟩; rw [decide_eq_false hlt] at he; subst he; refine ⟨_, rfl, ?_⟩))
          (go_ret; exact ⟨⟨_, rfl⟩, hS⟩)
      · have h2' : 2 * i + 2 < n + 1 := by omega
        have h2z : ((2 : Int) * i + 1 + 1) < n := by omega
        skip
        by_cases hlt : (L.getD i hz).lt (L.getD (2 * i + 1) hz)
        · have hR2 : Hid (downL (n + 1) (swapL L i (2 * i + 1)) (2 * i + 1) n = R) := by
            have := downL_step (f := n + 1) (by omega) h1 (by rw [hk]; exact hlt)
            rw [hk] at this
            exact this.symm.trans hR.out
          clear hR hk
          go_wp2_with (first | ((with_reducible refine' Wl.out ?_; apply wg_invoke (name := "Less") (l := [.slice (some ⟨g, 0, none⟩) (n + 1) c, .int .i64 (2 * i + 2 : Nat), .int .i64 (2 * i + 1 : Nat)]) (hm := less_m hS) (he := ent_less)); (· first | rfl | assumption | (go_simp; done)); (· exact rfl); (· exact rfl); refine (hless_n hS HL.out _ _ h2' h1').mono ?_; clear hS; rintro e' wl ⟨he, hS⟩; rw [decide_eq_false h3] at he; subst he; refine ⟨_, rfl, ?_⟩) | ((with_reducible refine' Wl.out ?_; apply wl_invoke (name := "Less") (l := [.slice (some ⟨g, 0, none⟩) (n + 1) c, .int .i64 (2 * i + 1 : Nat), .int .i64 (i : Nat)]) (hm := less_m hS) (he := ent_less)); (· exact rfl); (· exact rfl); refine (hless_n hS HL.out _ _ h1' hi').mono ?_; clear hS; rintro e' wl ⟨he, hS⟩; rw [decide_eq_true hlt] at he; subst he; refine ⟨_, rfl, ?_⟩) | ((with_reducible refine' Wl.out ?_; apply wl_invoke (name := "Swap") (l := [.slice (some ⟨g, 0, none⟩) (n + 1) c, .int .i64 (i : Nat), .int .i64 (2 * i + 1 : Nat)]) (hm := swap_m hS) (he := ent_swap)); (· exact rfl); (· exact rfl); refine (hswap_n hS HL.out _ _ hi' h1').mono ?_; clear hS; rintro e' wl ⟨rfl, hS⟩; refine ⟨_, rfl, ?_⟩))
          go_roundw
          case rel => exact ⟨2 * i + 1, swapL L i (2 * i + 1), by first | rfl | (congr 1; omega), by omega, (swapL_len _ _ _).trans HL.out, hR2, hS⟩
          case measure => simp [intOf]; omega
        · rw [downL_stop (fun hh => hlt (by rw [← hk]; exact hh.2))] at hR
          obtain rfl := hR.out
          clear hR hk
          go_wp2_with (first | ((with_reducible refine' Wl.out ?_; apply wg_invoke (name := "Less") (l := [.slice (some ⟨g, 0, none⟩) (n + 1) c, .int .i64 (2 * i + 2 : Nat), .int .i64 (2 * i + 1 : Nat)]) (hm := less_m hS) (he := ent_less)); (· first | rfl | assumption | (go_simp; done)); (· exact rfl); (· exact rfl); refine (hless_n hS HL.out _ _ h2' h1').mono ?_; clear hS; rintro e' wl ⟨he, hS⟩; rw [decide_eq_false h3] at he; subst he; refine ⟨_, rfl, ?_⟩) | ((with_reducible refine' Wl.out ?_; apply wl_invoke (name := "Less") (l := [.slice (some ⟨g, 0, none⟩) (n + 1) c, .int .i64 (2 * i + 1 : Nat), .int .i64 (i : Nat)]) (hm := less_m hS) (he := ent_less)); (· exact rfl); (· exact rfl); refine (hless_n hS HL.out _ _ h1' hi').mono ?_; clear hS; rintro e' wl ⟨he, hS⟩; rw [decide_eq_false hlt] at he; subst he; refine ⟨_, rfl, ?_⟩))
          (go_ret; exact ⟨⟨_, rfl⟩, hS⟩)
      · have h2' : 2 * i + 2 < n + 1 := by omega
        skip
        by_cases hlt : (L.getD i hz).lt (L.getD (2 * i + 2) hz)
        · have hR2 : Hid (downL (n + 1) (swapL L i (2 * i + 2)) (2 * i + 2) n = R) := by
            have := downL_step (f := n + 1) (by omega) h1 (by rw [hk]; exact hlt)
            rw [hk] at this
            exact this.symm.trans hR.out
          clear hR hk
          go_wp2_with (first | ((with_reducible refine' Wl.out ?_; apply wg_invoke (name := "Less") (l := [.slice (some ⟨g, 0, none⟩) (n + 1) c, .int .i64 (2 * i + 2 : Nat), .int .i64 (2 * i + 1 : Nat)]) (hm := less_m hS) (he := ent_less)); (· first | rfl | assumption | (go_simp; done)); (· exact rfl); (· exact rfl); refine (hless_n hS HL.out _ _ h2' h1').mono ?_; clear hS; rintro e' wl ⟨he, hS⟩; rw [decide_eq_true h3] at he; subst he; refine ⟨_, rfl, ?_⟩) | ((with_reducible refine' Wl.out ?_; apply wl_invoke (name := "Less") (l := [.slice (some ⟨g, 0, none⟩) (n + 1) c, .int .i64 (2 * i + 2 : Nat), .int .i64 (i : Nat)]) (hm := less_m hS) (he := ent_less)); (· exact rfl); (· exact rfl); refine (hless_n hS HL.out _ _ h2' hi').mono ?_; clear hS; rintro e' wl ⟨he, hS⟩; rw [decide_eq_true hlt] at he; subst he; refine ⟨_, rfl, ?_⟩) | ((with_reducible refine' Wl.out ?_; apply wl_invoke (name := "Swap") (l := [.slice (some ⟨g, 0, none⟩) (n + 1) c, .int .i64 (i : Nat), .int .i64 (2 * i + 2 : Nat)]) (hm := swap_m hS) (he := ent_swap)); (· exact rfl); (· exact rfl); refine (hswap_n hS HL.out _ _ hi' h2').mono ?_; clear hS; rintro e' wl ⟨rfl, hS⟩; refine ⟨_, rfl, ?_⟩))
          go_roundw
          case rel => exact ⟨2 * i + 2, swapL L i (2 * i + 2), by first | rfl | (congr 1; omega), by omega, (swapL_len _ _ _).trans HL.out, hR2, hS⟩
          case measure => simp [intOf]; omega
        · rw [downL_stop (fun hh => hlt (by rw [← hk]; exact hh.2))] at hR
          obtain rfl := hR.out
          clear hR hk
          go_wp2_with (first | ((with_reducible refine' Wl.out ?_; apply wg_invoke (name := "Less") (l := [.slice (some ⟨g, 0, none⟩) (n + 1) c, .int .i64 (2 * i + 2 : Nat), .int .i64 (2 * i + 1 : Nat)]) (hm := less_m hS) (he := ent_less)); (· first | rfl | assumption | (go_simp; done)); (· exact rfl); (· exact rfl); refine (hless_n hS HL.out _ _ h2' h1').mono ?_; clear hS; rintro e' wl ⟨he, hS⟩; rw [decide_eq_true h3] at he; subst he; refine ⟨_, rfl, ?_⟩) | ((with_reducible refine' Wl.out ?_; apply wl_invoke (name := "Less") (l := [.slice (some ⟨g, 0, none⟩) (n + 1) c, .int .i64 (2 * i + 2 : Nat), .int .i64 (i : Nat)]) (hm := less_m hS) (he := ent_less)); (· exact rfl); (· exact rfl); refine (hless_n hS HL.out _ _ h2' hi').mono ?_; clear hS; rintro e' wl ⟨he, hS⟩; rw [decide_eq_false hlt] at he; subst he; refine ⟨_, rfl, ?_⟩))
          (go_ret; exact ⟨⟨_, rfl⟩, hS⟩)
    · rw [downL_stop (fun hh => h1 hh.1)] at hR
      obtain rfl := hR.out
      go_wp2_with fail
      all_goals (go_ret; exact ⟨⟨_, rfl⟩, hS⟩)
end Go.Proofs.YtnbhhdncbajkgaaGreatDoor
/- heap.Push, heap.Pop over hits. -/
namespace Go.Proofs.YtnbhhdncbajkgaaGreatDoor
set_option linter.unusedVariables false
set_option linter.unusedSimpArgs false
open Go.RowKit Go.Shelf
/-- A heap that may be nil. -/
abbrev esQ (b : Nat) (q : Option Addr) (c n : Nat) (l : List Hit) : List Ent := [.box b [.slice q n c], rowQ q c n (cellsH l)]
abbrev hitV (h : Hit) : Value := .iface 86 (.agg #[.int .i64 h.dist, .int .i64 h.id])
theorem ownsRow_some {w : World} {e : TypeId} {q : Option Addr} {c n : Nat} {xs : List Value} (h : w.ownsRow 0 e 2 (.slice q n c) n xs) (h0 : 0 < n) : ∃ g, q = some ⟨g, 0, none⟩ := by
  rcases h.2 with ⟨e, h1⟩ | ⟨g, cap, cur, e, _⟩
  · cases e
    omega
  · cases e; exact ⟨g, rfl⟩
set_option maxRecDepth 100000 in
set_option maxHeartbeats 4000000 in
theorem push_c {X : List Nat} {w0 w : World} {m0 m : Mem} {b c n : Nat} {q : Option Addr} {l : List Hit} (h : Hit) (hS : St X w0 m0 w (esQ b q c n l) m) (hn : l.length = n) (hN : n ≤ 900) :
    Calls Tryz.prog 93 #[.iface 132 (pH b), hitV h] w fun e w' => e = .returned (.tuple #[]) ∧ ∃ g c', St X w0 m0 w' (esH b g c' (n + 1) (pushL l h)) m := by
  subst hn
  have hlen : Hid ((l ++ [h]).length = l.length + 1) := by show _ = _; simp
  go_enter Tryz.func93, Tryz.ntmps93
  go_wp2_with (first
    | ((with_reducible refine' Wl.out ?_; apply wl_invoke (name := "Push") (l := [pH b, hitV h]) (hm := push_m) (he := ent_push)); (· exact rfl); (· exact rfl); refine (hpush_c X w w0 m m0 b q c l h hS (by omega)).mono ?_; clear hS; rintro e' w6 ⟨rfl, q', c', hS⟩; obtain ⟨g, rfl⟩ := ownsRow_some (hS.row 1 rfl) (by omega); refine ⟨_, rfl, ?_⟩)
    | ((with_reducible refine' Wl.out ?_; apply wl_invoke (name := "Len") (l := [.slice (some ⟨g, 0, none⟩) (l.length + 1) c']) (hm := len_m hS) (he := ent_len)); (· exact rfl); (· exact rfl); refine (hlen_c _ _ _ _).mono ?_; rintro e' w9 ⟨rfl, rfl⟩; refine ⟨_, rfl, ?_⟩)
    | (go_at_call 105; refine (up_c (n := l.length + 1) (l := l ++ [h]) hS hlen.out (by omega) l.length (by omega) rfl).mono ?_; clear hS; rintro e' w11 ⟨rfl, hS⟩))
  exact bodyPost_end (v := .tuple #[]) (by kernel_rfl) rfl ⟨rfl, g, c', hS⟩
set_option maxRecDepth 100000 in
set_option maxHeartbeats 4000000 in
theorem pop_c {X : List Nat} {w0 w : World} {m0 m : Mem} {b g c n : Nat} {l : List Hit} (hS : St X w0 m0 w (esH b g c (n + 1) l) m) (hn : l.length = n + 1) (hN : n ≤ 900) :
    Calls Tryz.prog 94 #[.iface 132 (pH b)] w fun e w' => (∃ v, e = .returned v) ∧ St X w0 m0 w' (esH b g c n (popL l)) m := by
  have hlen : Hid (l.length = n + 1) := hn
  clear hn
  go_enter Tryz.func94, Tryz.ntmps94
  go_wp2_with (first
    | ((with_reducible refine' Wl.out ?_; apply wl_invoke (name := "Len") (l := [.slice (some ⟨g, 0, none⟩) (n + 1) c]) (hm := len_m hS) (he := ent_len)); (· exact rfl); (· exact rfl); refine (hlen_c _ _ _ _).mono ?_; rintro e' w9 ⟨rfl, rfl⟩; refine ⟨_, rfl, ?_⟩)
    | ((with_reducible refine' Wl.out ?_; apply wl_invoke (name := "Swap") (l := [.slice (some ⟨g, 0, none⟩) (n + 1) c, .int .i64 (0 : Nat), .int .i64 (n : Nat)]) (hm := swap_m hS) (he := ent_swap)); (· exact rfl); (· exact rfl); refine (hswap_n hS hlen.out _ _ (by omega) (by omega)).mono ?_; clear hS; rintro e' w9 ⟨rfl, hS⟩; refine ⟨_, rfl, ?_⟩)
    | (go_at_call 106; refine (down_c (l := swapL l 0 n) hS ((swapL_len _ _ _).trans hlen.out) (by omega) rfl).mono ?_; clear hS; rintro e' w11 ⟨⟨v11, rfl⟩, hS⟩)
    | ((with_reducible refine' Wl.out ?_; apply wl_invoke (name := "Pop") (l := [pH b]) (hm := pop_m) (he := ent_pop)); (· exact rfl); (· exact rfl); refine (hpop_c X w11 w0 m m0 b g c n _ (((downL_perm _ _ _ _ (by rw [swapL_len, hlen.out]; omega)).2.1).trans ((swapL_len _ _ _).trans hlen.out)) hS (by omega)).mono ?_; clear hS; rintro e' w14 ⟨rfl, hS⟩; refine ⟨_, rfl, ?_⟩))
  have e : popL l = (downL (n + 1) (swapL l 0 n) 0 n).take n := by unfold popL; rw [hlen.out]; rfl
  rw [e]
  go_ret
  exact ⟨⟨_, rfl⟩, hS⟩
end Go.Proofs.YtnbhhdncbajkgaaGreatDoor
/- Whether there is one among hits: slices.IndexFunc, ContainsFunc. -/
namespace Go.Proofs.YtnbhhdncbajkgaaGreatDoor
set_option linter.unusedVariables false
set_option linter.unusedSimpArgs false
open Go.RowKit Go.Shelf
abbrev hitA (x : Hit) : Value := .agg #[.int .i64 x.dist, .int .i64 x.id]
/-- A function that tells of hits, at what is known. -/
def Tells (F : FuncId) (cap : Array Value) (m : Mem) (B : Hit → Bool) : Prop := ∀ (w : World), m.In w → ∀ x, Calls Tryz.prog F (#[hitA x] ++ cap) w (Ret w m fun v _ => v = .bool (B x))
theorem Tells.one {F : FuncId} {p : Value} {m : Mem} {B : Hit → Bool} (h : ∀ (w : World), m.In w → ∀ x, Calls Tryz.prog F #[hitA x, p] w (Ret w m fun v _ => v = .bool (B x))) : Tells F #[p] m B := fun w hm x => by
  rw [show #[hitA x] ++ #[p] = #[hitA x, p] by simp]
  exact h w hm x
set_option maxRecDepth 100000 in
set_option maxHeartbeats 2000000 in
theorem index_c (m : Mem) (w : World) (hm : m.In w) (q : Option Addr) (c : Nat) (xs : List Hit) (hr : hitL.list.rd m [.slice q xs.length c] xs) (F : FuncId) (cap : Array Value) (B : Hit → Bool) (eg : Enters Tryz.prog F) (hF : Tells F cap m B) :
    Calls Tryz.prog 104 #[.slice q xs.length c, .func (.func F) #[] cap] w (Ret w m fun v _ => ∃ i : Int, v = .int .i64 i ∧ (0 ≤ i ∧ i ≤ 9223372036854775807 ∧ xs.any B = true ∨ i = -1 ∧ xs.any B = false)) := by
  have hS := St.start hm
  obtain ⟨q', c', e, h1, h2, h3, hrow⟩ := Lay.list_open hr
  cases e
  have hl : xs.length ≤ 9223372036854775807 := by simp only [maxLen] at h2; omega
  unfold Enters at eg
  have HF := Lib.hid hF
  have HR := Lib.hid hrow
  clear hr h1 h2 h3 hrow hF
  go_enter Tryz.func104, Tryz.ntmps104
  go_wp2
  go_loopw [8] (fun i wr => ∃ k : Nat, k ≤ xs.length ∧ i = .int .i64 k ∧ Hid ((xs.take k).any B = false) ∧ St [] w m wr [] m) (fun i _ => xs.length - (intOf i).toNat)
  case atStart => exact ⟨0, Nat.zero_le _, rfl, by simp [Hid], hS⟩
  case round =>
    clear hS
    obtain ⟨k, hk, rfl, hno, hS⟩ := hrel
    by_cases hlt : k < xs.length
    · obtain ⟨b, o, cs, rfl, hcs, hcell⟩ := HR.out.get k hlt
      obtain ⟨rfl, _, _⟩ := hitL_open hcs
      have hcell2 : ∀ j v, [Value.int .i64 xs[k].dist, .int .i64 xs[k].id][j]? = some v → m ⟨b, o + k * 2 + j, none⟩ = some v := hcell
      have hodd := HF.out wr hS.inw xs[k]
      have HN : Hid ((xs.take (k + 1)).any B = B xs[k]) := by
        have := hno.out
        show _ = _
        rw [List.take_succ_eq_append_getElem hlt, List.any_append, this]; simp
      have HM : Hid (xs.any B = true ∨ B xs[k] = false) := by
        cases hb : B xs[k] with
        | false => exact .inr rfl
        | true => exact .inl (List.any_eq_true.2 ⟨_, List.getElem_mem hlt, hb⟩)
      clear hno hcs hcell HR HF
      generalize B xs[k] = T at *
      generalize xs[k] = x at *
      cases T
      all_goals
        go_wp2_with (first 
    | ((with_reducible refine' Wl.out ?_; apply k_loads hS); (· exact .mk))
          | (go_at_fn F; refine hodd.mono ?_; rintro e' w2 ⟨_, m2, rfl, rfl, hk2⟩; replace hS := hS.grow (grownBy_of_below hk2.below); clear hk2))
      · go_roundw
        case rel => exact ⟨k + 1, hlt, by go_num, HN, hS⟩
        case measure => simp [intOf]; omega
      · go_ret
        have := HM.out
        exact ⟨_, m, rfl, ⟨_, rfl, .inl ⟨by omega, by omega, by simpa using this⟩⟩, hS⟩
    · obtain rfl : k = xs.length := by omega
      go_wp2
      go_ret
      have := hno.out
      rw [List.take_length] at this
      exact ⟨_, m, rfl, ⟨_, rfl, .inr ⟨rfl, this⟩⟩, hS⟩
set_option maxRecDepth 100000 in
theorem contains_c (m : Mem) (w : World) (hm : m.In w) (q : Option Addr) (c : Nat) (xs : List Hit) (hr : hitL.list.rd m [.slice q xs.length c] xs) (F : FuncId) (cap : Array Value) (B : Hit → Bool) (eg : Enters Tryz.prog F) (hF : Tells F cap m B) :
    Calls Tryz.prog 90 #[.slice q xs.length c, .func (.func F) #[] cap] w (Ret w m fun v _ => v = .bool (xs.any B)) := by
  have hS := St.start hm
  go_enter Tryz.func90, Tryz.ntmps90
  go_wp2_with fail
  refine (index_c m w hm q c xs hr F cap B eg hF).mono ?_
  rintro e' w1 ⟨_, m1, rfl, ⟨i, rfl, hi⟩, hk⟩
  replace hS := hS.grow (grownBy_of_below hk.below)
  rcases hi with ⟨h1, h2, h3⟩ | ⟨rfl, h3⟩
  all_goals
    have H3 := Lib.hid h3
    clear h3 hk
    go_wp2
    go_ret
    exact ⟨_, m, rfl, vbool (by rw [H3.out]; try (simp <;> omega)), hS⟩
end Go.Proofs.YtnbhhdncbajkgaaGreatDoor
/- Maps of the call's own: whole numbers by whole numbers. -/
namespace Go.Proofs.YtnbhhdncbajkgaaGreatDoor
set_option linter.unusedVariables false
set_option linter.unusedSimpArgs false
open Go.RowKit
open Go.Maps (Keyed)
open Go.WideElems (Fit rg)
/-- What stands at each key (nothing: no such key). -/
def MapI (P : Program) (k e : TypeId) (q r : IntKind) (n : Nat) (f : Int → Option Int) : Obj → Prop := fun o =>
  ∃ (es : Array MapEntry) (clock : Nat), o = .map es clock ∧ Fit (H := Unit) P k (plainElem P e) es clock ∧ es.size ≤ n ∧
    ∀ x, (Lit.int q x).wf = true → Maps.has (.map ((es.toList.map (rg (H := Unit) P k (plainElem P e))).foldr DataW.insert [])) (.int q x) = (f x).isSome ∧
      ∀ z, (DataW.map ((es.toList.map (rg (H := Unit) P k (plainElem P e))).foldr DataW.insert [])).atKey (.int q x) z = match f x with | some v => .lit (.int r v) | none => z
section
variable {P : Program} {X : List Nat} {w0 w : World} {m0 m : Mem} {es : List Ent} {k e : TypeId} {q r : IntKind} {b n : Nat} {f : Int → Option Int}
theorem St.mapOwn (hS : St X w0 m0 w es m) (h : Ent.obj b (MapI P k e q r n f) ∈ es) : ∃ D : DataW Unit, w.ownsMap P k (plainElem P e) b n D ∧ ∀ x, (Lit.int q x).wf = true → Maps.has D (.int q x) = (f x).isSome ∧ ∀ z, D.atKey (.int q x) z = match f x with | some v => .lit (.int r v) | none => z := by
  obtain ⟨o, ho, es', clock, rfl, h1, h2, h3⟩ := (hS.has _ h).1
  exact ⟨_, ⟨es', clock, ho, h1, h2, rfl⟩, h3⟩
theorem mapI_of {D : DataW Unit} (h : w.ownsMap P k (plainElem P e) b n D) (hf : ∀ x, (Lit.int q x).wf = true → Maps.has D (.int q x) = (f x).isSome ∧ ∀ z, D.atKey (.int q x) z = match f x with | some v => .lit (.int r v) | none => z) : (Ent.obj b (MapI P k e q r n f)).ok w := by
  obtain ⟨es', clock, hb, h1, h2, rfl⟩ := h
  exact ⟨_, hb, es', clock, rfl, h1, h2, hf⟩
/-- es with another thing in the place of one of block b. -/
inductive UpdO : List Ent → Nat → (Obj → Prop) → (Obj → Prop) → List Ent → Prop
  | head {l : List Ent} {b : Nat} {p p' : Obj → Prop} : UpdO (.obj b p :: l) b p p' (.obj b p' :: l)
  | tail {l l' : List Ent} {b : Nat} {p p' : Obj → Prop} {x : Ent} : UpdO l b p p' l' → UpdO (x :: l) b p p' (x :: l')
theorem UpdO.at {es es' : List Ent} {b : Nat} {p p' : Obj → Prop} (h : UpdO es b p p' es') : ∃ i : Nat, es[i]? = some (.obj b p) ∧ es' = es.set i (.obj b p') := by
  induction h with
  | head => exact ⟨0, rfl, rfl⟩
  | tail h ih => obtain ⟨i, h1, h2⟩ := ih; exact ⟨i + 1, h1, by rw [h2]; rfl⟩
variable {ops : Array Oper} {o : Oper} {a : Act} {K : Act → World → Prop} {Q : Exit → Act → World → Prop} {t : TypeId}
theorem op_makeMap (hS : St X w0 m0 w es m) (ho : o.op = .makeMap t none) (k e : TypeId) (q r : IntKind) (h : ∀ w' b, St X w0 m0 w' (.obj b (MapI P k e q r 0 (fun _ => none)) :: es) m → K (a.put o.dst (.map (some b))) w') : o.wp P a w K Q := by
  have hok : (Ent.obj w.heap.size (MapI P k e q r 0 (fun _ => none))).ok (w.alloc (.map #[] 0)) := mapI_of (World.ownsMap_made (H := Unit) w P k (plainElem P e)) fun x _ => ⟨rfl, fun z => rfl⟩
  unfold Oper.wp execOp
  simp only [ho, Sem.run_bind, Sem.run_pure, Result.andThen_ok, Option.map_none, run_makeMap]
  exact h _ _ (hS.add _ (World.grownBy_alloc w _ none) hok (fun b hb => by cases hb; exact Nat.le_refl _))
theorem op_lookup (hS : St X w0 m0 w es m) (mp x : Operand) (ho : o.op = .lookup t mp x false) (hk : P.underlying k = some (.int q)) (ht : P.underlying t = some (.map k e)) (he : P.underlying e = some (.int r)) (hz : (P.info? e).bind (·.zero) = some (.int r 0))
    (hm : a.eval mp = .map (some b)) (hM : Ent.obj b (MapI P k e q r n f) ∈ es) {y : Int} (hx : a.eval x = .int q y) (hy : (Lit.int q y).wf = true) (h : K (a.put o.dst (.int r ((f y).getD 0))) w) : o.wp P a w K Q := by
  obtain ⟨D, hown, hf⟩ := hS.mapOwn hM
  have hz' : (zeroValue e).run P w = .ok (.int r 0) w := by
    cases hq : P.info? e with
    | none => simp [hq] at hz
    | some i =>
      simp [hq] at hz
      simp [zeroValue, typeInfo, hq, hz]
  obtain ⟨c, hrun, hat, hwc⟩ := hown.lookup_int (Maps.int_keyed hk) ht he hz' (Maps.keyOf_int_mk hk hy)
  have hc : c = (f y).getD 0 := by
    rw [(hf y hy).2] at hat
    cases hfy : f y with
    | none => rw [hfy] at hat; simp at hat; simp [hat]
    | some v => rw [hfy] at hat; simp at hat; simp [hat]
  unfold Oper.wp
  simp [execOp, ho, hm, hx, hrun, Result.andThen]
  rw [hc]
  exact h
theorem op_lookup2 (hS : St X w0 m0 w es m) (mp x : Operand) (ho : o.op = .lookup t mp x true) (hk : P.underlying k = some (.int q)) (ht : P.underlying t = some (.map k e)) (he : P.underlying e = some (.int r)) (hz : (P.info? e).bind (·.zero) = some (.int r 0))
    (hm : a.eval mp = .map (some b)) (hM : Ent.obj b (MapI P k e q r n f) ∈ es) {y : Int} (hx : a.eval x = .int q y) (hy : (Lit.int q y).wf = true) (h : K (a.put o.dst (.tuple #[.int r ((f y).getD 0), .bool (f y).isSome])) w) : o.wp P a w K Q := by
  obtain ⟨ob, hob, es', clock, rfl, F, h2, hf⟩ := (hS.has _ hM).1
  have hz' : (zeroValue e).run P w = .ok (.int r 0) w := by
    cases hq : P.info? e with
    | none => simp [hq] at hz
    | some i =>
      simp [hq] at hz
      simp [zeroValue, typeInfo, hq, hz]
  have hw0 : (Lit.int r 0).wf = true := by cases r <;> decide
  have hrun : (Instr.lookup t (.map (some b)) (.int q y) true).run P w = .ok (.tuple #[.int r ((f y).getD 0), .bool (f y).isSome]) w := by
    rcases Maps.fit_look true (Maps.int_keyed hk) ht hz' hob F (Maps.keyOf_int_mk hk hy) with ⟨hrun, _, hat⟩ | ⟨e0, z, _, _, hrun, hR, hat, _⟩
    · have h1 := (hf y hy).2 (.lit (.int r 7))
      rw [hat] at h1
      have h2' := (hf y hy).2 (.lit (.int r 8))
      rw [hat] at h2'
      cases hfy : f y with
      | none => rw [hrun]; simp
      | some v => rw [hfy] at h1 h2'; simp at h1 h2'; omega
    · have h1 := (hf y hy).2 (.lit (.int r 7))
      rw [hat] at h1
      have h2' := (hf y hy).2 (.lit (.int r 8))
      rw [hat] at h2'
      cases hfy : f y with
      | none => rw [hfy] at h1 h2'; rw [h1] at h2'; simp at h2'
      | some v =>
        rw [hfy] at h1
        obtain ⟨c, e1, e2, e3⟩ := plainElem_int_inv he (show plainElem (H := Unit) P e e0.val = some (z.1, z.2) from hR)
        rw [hrun, e1]
        rw [(Prod.mk.inj e2).1] at h1
        simp at h1
        simp [h1]
  unfold Oper.wp
  simp [execOp, ho, hm, hx, hrun, Result.andThen]
  exact h
theorem op_mapUpdate (hS : St X w0 m0 w es m) (mp x v : Operand) (ho : o.op = .mapUpdate t mp x v) (hk : P.underlying k = some (.int q)) (ht : P.underlying t = some (.map k e)) (he : P.underlying e = some (.int r)) (hn : n < maxLen)
    (hm : a.eval mp = .map (some b)) {y c : Int} (hx : a.eval x = .int q y) (hy : (Lit.int q y).wf = true) (hv : a.eval v = .int r c) (hc : (Lit.int r c).wf = true) {es' : List Ent} (hU : UpdO es b (MapI P k e q r n f) (MapI P k e q r (n + 1) (fun z => if z = y then some c else f z)) es')
    (h : ∀ w', St X w0 m0 w' es' m → K (a.put o.dst undef) w') : o.wp P a w K Q := by
  obtain ⟨i, hi, rfl⟩ := hU.at
  obtain ⟨D, hown, hf⟩ := hS.mapOwn (List.mem_of_getElem? hi)
  obtain ⟨w', hrun, r1, r2⟩ := hown.update (Maps.int_keyed hk) ht hn (Maps.keyOf_int_mk hk hy) (plainElem_int he hc)
  have hD : Maps.IsMap D := by obtain ⟨_, _, _, _, _, rfl⟩ := hown; exact ⟨_, rfl⟩
  have hkl : WideAt.IsKeyLit (Lit.int q y) := (Maps.int_keyed hk).key (Maps.keyOf_int_mk hk hy)
  have hok : (Ent.obj b (MapI P k e q r (n + 1) (fun z => if z = y then some c else f z))).ok w' := mapI_of r1 fun z hz => by
    by_cases e : z = y
    · subst e
      rw [if_pos rfl]
      exact ⟨Maps.has_put_same hD hkl _, fun zd => Maps.atKey_put_same hD hkl _ zd⟩
    · rw [if_neg e]
      have hne : (Lit.int q z) ≠ (Lit.int q y) := fun h => e (by cases h; rfl)
      exact ⟨(Maps.has_put_other hne _).trans (hf z hz).1, fun zd => (Maps.atKey_put_other hne _ zd).trans ((hf z hz).2 zd)⟩
  unfold Oper.wp
  simp [execOp, ho, hm, hx, hv, hrun, Result.andThen]
  exact h w' (hS.set i _ _ hi r2 hok (fun _ h => .inl h))
end
end Go.Proofs.YtnbhhdncbajkgaaGreatDoor
/- Rules of the walk at maps of the call's own. -/
namespace Go.Proofs.YtnbhhdncbajkgaaGreatDoor
set_option linter.unusedVariables false
set_option linter.unusedSimpArgs false
open Go.RowKit
variable {P : Program} {ops : Array Oper} {X : List Nat} {w0 w : World} {m0 m : Mem} {es : List Ent} {o : Oper} {a : Act} {K : Act → World → Prop} {Q : Exit → Act → World → Prop}
variable {rest : List Oper} {dst : Option Tmp} {rt : TypeId} {pos : String} {af : Array Edge} {E : Prop} {g : Nat × Bool} {t k e : TypeId} {q r : IntKind} {b n : Nat} {f f' : Int → Option Int}
/-- What a map's type says. -/
structure MapT (P : Program) (t k e : TypeId) (q r : IntKind) : Prop where
  hk : P.underlying k = some (.int q)
  ht : P.underlying t = some (.map k e)
  he : P.underlying e = some (.int r)
  hz : (P.info? e).bind (·.zero) = some (.int r 0)
theorem inK_wf {k : IntKind} {x : Int} (h : InK k x) : (Lit.int k x).wf = true := by
  simp only [Lit.wf, decide_eq_true_eq, Bool.and_eq_true]
  exact h
theorem wl_makeMap (hS : St X w0 m0 w es m) (hT : MapT P t k e q r) (h : ∀ w' b, St X w0 m0 w' (.obj b (MapI P k e q r 0 (fun _ => none)) :: es) m → wpList P ops Q rest (a.put dst (.map (some b))) w') : Wl P ops Q (⟨dst, .makeMap t none, rt, pos, af, none⟩ :: rest) a w :=
  ⟨wpList_plain rfl fun K hK => op_makeMap hS rfl k e q r fun w' b hw => hK _ _ (h w' b hw)⟩
theorem wl_lookup (hS : St X w0 m0 w es m) (hT : MapT P t k e q r) {mp x : Operand} {y v : Int} (hm : a.eval mp = .map (some b)) (hM : Ent.obj b (MapI P k e q r n f) ∈ es) (hx : a.eval x = .int q y) (hy : InK q y) (hv : (f y).getD 0 = v) (h : wpList P ops Q rest (a.put dst (.int r v)) w) :
    Wl P ops Q (⟨dst, .lookup t mp x false, rt, pos, af, none⟩ :: rest) a w :=
  ⟨wpList_plain rfl fun K hK => op_lookup hS mp x rfl hT.hk hT.ht hT.he hT.hz hm hM hx (inK_wf hy) (by rw [hv]; exact hK _ _ h)⟩
theorem s_lookup (hS : St X w0 m0 w es m) (hT : MapT P t k e q r) {mp x : Operand} {y v : Int} (hm : a.eval mp = .map (some b)) (hM : Ent.obj b (MapI P k e q r n f) ∈ es) (hx : a.eval x = .int q y) (hy : InK q y) (hv : (f y).getD 0 = v) (h : K (a.put dst (.int r v)) w) :
    if Region.wanted ⟨dst, .lookup t mp x false, rt, pos, af, none⟩ (yielded ops a.tmps) = true then Oper.wp P ⟨dst, .lookup t mp x false, rt, pos, af, none⟩ a w K Q else E :=
  step_of rfl (op_lookup hS mp x rfl hT.hk hT.ht hT.he hT.hz hm hM hx (inK_wf hy) (by rw [hv]; exact h))
theorem wl_mapUpdate (hS : St X w0 m0 w es m) (hT : MapT P t k e q r) {mp x v : Operand} {y c : Int} {es' : List Ent} (hm : a.eval mp = .map (some b)) (hx : a.eval x = .int q y) (hy : InK q y) (hv : a.eval v = .int r c) (hc : InK r c) (hn : n < maxLen) (hf : (fun z => if z = y then some c else f z) = f')
    (hU : UpdO es b (MapI P k e q r n f) (MapI P k e q r (n + 1) f') es') (h : ∀ w', St X w0 m0 w' es' m → wpList P ops Q rest (a.put dst undef) w') : Wl P ops Q (⟨dst, .mapUpdate t mp x v, rt, pos, af, none⟩ :: rest) a w := by
  subst hf
  exact ⟨wpList_plain rfl fun K hK => op_mapUpdate hS mp x v rfl hT.hk hT.ht hT.he hn hm hx (inK_wf hy) hv (inK_wf hc) hU fun w' hw => hK _ _ (h w' hw)⟩
end Go.Proofs.YtnbhhdncbajkgaaGreatDoor
/- best.Check. -/
namespace Go.Proofs.YtnbhhdncbajkgaaGreatDoor
set_option linter.unusedVariables false
set_option linter.unusedSimpArgs false
open Go.RowKit Go.Shelf
theorem mapT : MapT Tryz.prog 87 2 3 .i64 .i64 := ⟨Tryz.underlying2, Tryz.underlying87, Tryz.underlying3, by kernel_rfl⟩
instance (l : List Hit) (n : Nat) : Decidable (Heap l n) := by
  refine decidable_of_iff (∀ k, k < n → 0 < k → ¬ (l.getD ((k - 1) / 2) hz).lt (l.getD k hz)) ⟨fun h k a b => h k b a, fun h k a b => h k b a⟩
instance (l : List Hit) (k : Int) : Decidable (okH l k) := inferInstanceAs (Decidable (_ ∧ _))
/-- Whether a heap may be; 0: it may. -/
def chkE (l : List Hit) (k : Int) : Int := if okH l k then 0 else 1
/-- Which ids were met. -/
def metF (l : List Hit) (k : Nat) : Int → Option Int := fun z => if z ∈ (l.take k).map Hit.id then some 1 else none
theorem metF_in {l : List Hit} {k : Nat} {z : Int} (h : z ∈ (l.take k).map Hit.id) : (metF l k z).getD 0 = 1 := by unfold metF; rw [if_pos h]; rfl
theorem metF_out {l : List Hit} {k : Nat} {z : Int} (h : z ∉ (l.take k).map Hit.id) : (metF l k z).getD 0 = 0 := by unfold metF; rw [if_neg h]; rfl
theorem metF_succ {l : List Hit} {k : Nat} {x : Hit} (hk : k < l.length) (hx : l[k] = x) : (fun z => if z = x.id then some 1 else metF l k z) = metF l (k + 1) := by
  funext z
  unfold metF
  rw [List.take_succ_eq_append_getElem hk, hx]
  by_cases h : z = x.id
  · simp [h]
  · simp [h]
def PreH (l : List Hit) (k : Nat) : Prop := ((l.take k).map Hit.id).Nodup ∧ ∀ j, 0 < j → j < k → ¬ (l.getD ((j - 1) / 2) hz).lt (l.getD j hz)
theorem PreH.zero (l : List Hit) : PreH l 0 := ⟨by simp, fun j _ h => by omega⟩
theorem PreH.succ {l : List Hit} {k : Nat} (h : PreH l k) (hk : k < l.length) {x : Hit} (hx : l[k] = x) (hn : x.id ∉ (l.take k).map Hit.id) (hh : 0 < k → ¬ (l.getD ((k - 1) / 2) hz).lt x) : PreH l (k + 1) := by
  refine ⟨?_, fun j j0 jk => ?_⟩
  · rw [List.take_succ_eq_append_getElem hk, List.map_append, List.nodup_append, hx]
    refine ⟨h.1, by simp, fun a ha b hb e => ?_⟩
    simp at hb
    subst e
    exact hn (hb ▸ ha)
  · by_cases e : j = k
    · subst e
      have := hh j0
      rwa [show l.getD j hz = x by simp [List.getD, hk, hx]]
    · exact h.2 j j0 (by omega)
theorem PreH.all {l : List Hit} (h : PreH l l.length) : (l.map Hit.id).Nodup ∧ Heap l l.length := by
  have := h.1
  rw [List.take_length] at this
  exact ⟨this, h.2⟩
theorem not_nodup {l : List Hit} {k : Nat} (hk : k < l.length) (h : l[k].id ∈ (l.take k).map Hit.id) : ¬ (l.map Hit.id).Nodup := fun hn => by
  rw [← List.take_append_drop k l, List.map_append, List.nodup_append] at hn
  refine hn.2.2 _ h _ ?_ rfl
  rw [List.drop_eq_getElem_cons hk]
  exact List.mem_map.2 ⟨_, List.mem_cons_self, rfl⟩
theorem any_odd {l : List Hit} : l.any oddB = false ↔ ∀ h ∈ l, fineH h := by
  rw [List.any_eq_false]
  refine forall_congr' fun h => forall_congr' fun _ => ?_
  simp [oddB, fineH]
theorem ent_odd : Enters Tryz.prog 89 := enters_of Tryz.func89 (by kernel_rfl) rfl
theorem tells_odd (m : Mem) : Tells 89 #[] m oddB := fun w hm x => odd_c m w hm x
set_option maxRecDepth 100000 in
set_option maxHeartbeats 4000000 in
theorem bcheck_c (m : Mem) (w : World) (hm : m.In w) (v : Value) (xs : List Hit) (hr : hitL.list.rd m [v] xs) (K : Int) (hK : InK .i64 K) :
    Calls Tryz.prog 88 #[v, .int .i64 K] w (Ret w m fun v _ => v = .int .i64 (chkE xs K)) := by
  have hS := St.start hm
  obtain ⟨q, c, rfl, h1, h2, h3, hrow⟩ := Lay.list_open hr
  have hl : xs.length ≤ 9223372036854775807 := by simp only [maxLen] at h2; omega
  have HR := Lib.hid hrow
  have HL := Lib.hid hr
  clear hr h1 h2 h3 hrow
  have no : ¬ okH xs K → chkE xs K = 1 := fun h => if_neg h
  by_cases a1 : K < 1
  · rw [no fun o => by have := o.1; omega]
    clear HR HL
    go_enter Tryz.func88, Tryz.ntmps88
    go_wp2_with fail
    go_ret
    exact ⟨_, m, rfl, rfl, hS⟩
  by_cases a2 : 256 < K
  · rw [no fun o => by have := o.2.1; omega]
    clear HR HL
    go_enter Tryz.func88, Tryz.ntmps88
    go_wp2_with fail
    go_ret
    exact ⟨_, m, rfl, rfl, hS⟩
  by_cases a3 : K < (xs.length : Int)
  · rw [no fun o => by have := o.2.2.1; omega]
    clear HR HL
    go_enter Tryz.func88, Tryz.ntmps88
    go_wp2_with fail
    go_ret
    exact ⟨_, m, rfl, rfl, hS⟩
  cases hodd : xs.any oddB with
  | true =>
    rw [no fun o => by rw [any_odd.2 o.2.2.2.1] at hodd; cases hodd]
    clear HR
    go_enter Tryz.func88, Tryz.ntmps88
    go_wp2_with (first | (go_at_call 90; refine (contains_c m _ hS.inw q c xs HL.out _ _ oddB ent_odd (tells_odd m)).mono ?_; rintro e' w22 ⟨_, m22, rfl, hv22, hk22⟩; replace hS := hS.grow (grownBy_of_below hk22.below); clear hk22; rw [hodd] at hv22; subst hv22))
    go_ret
    exact ⟨_, m, rfl, rfl, hS⟩
  | false =>
    have hfine := any_odd.1 hodd
    have yes : Hid (PreH xs xs.length → chkE xs K = 0) := fun h => by
      obtain ⟨o1, o2⟩ := h.all
      exact if_pos ⟨by omega, by omega, by omega, hfine, o1, o2⟩
    have no2 : Hid (¬ (xs.map Hit.id).Nodup → chkE xs K = 1) := fun h => no fun o => h o.2.2.2.2.1
    have no3 : Hid (¬ Heap xs xs.length → chkE xs K = 1) := fun h => no fun o => h o.2.2.2.2.2
    clear no hfine
    generalize chkE xs K = R at *
    go_enter Tryz.func88, Tryz.ntmps88
    go_wp2_with (first
      | (go_at_call 90; refine (contains_c m _ hS.inw q c xs HL.out _ _ oddB ent_odd (tells_odd m)).mono ?_; rintro e' w22 ⟨_, m22, rfl, hv22, hk22⟩; replace hS := hS.grow (grownBy_of_below hk22.below); clear hk22; rw [hodd] at hv22; subst hv22)
      | ((with_reducible refine' Wl.out ?_; apply wl_makeMap hS mapT); clear hS; intro w24 b24 hS))
    clear hodd HL
    go_loopw [27] (fun i wr => ∃ k : Nat, k ≤ xs.length ∧ i = .int .i64 k ∧ Hid (PreH xs k) ∧ St [] w m wr [.obj b24 (MapI Tryz.prog 2 3 .i64 .i64 k (metF xs k))] m) (fun i _ => xs.length - (intOf i).toNat)
    case atStart => exact ⟨0, Nat.zero_le _, rfl, PreH.zero _, hS⟩
    case round =>
      clear hS
      obtain ⟨k, hk, rfl, hP, hS⟩ := hrel
      by_cases hlt : k < xs.length
      · have hk1 : (k : Int) < xs.length := by omega
        obtain ⟨bq, oq, cs, rfl, hcs, hcell⟩ := HR.out.get k hlt
        obtain ⟨rfl, i1, i2⟩ := hitL_open hcs
        have hx : Hid (xs[k] = xs[k]) := rfl
        have hcx : ∀ j v, [Value.int .i64 xs[k].dist, .int .i64 xs[k].id][j]? = some v → m ⟨bq, oq + k * 2 + j, none⟩ = some v := hcell
        clear hcs hcell
        have s5 : xs[k] = xs.getD k hz := by simp [List.getD, hlt]
        by_cases hin : xs[k].id ∈ (xs.take k).map Hit.id
        · have hmet := Lib.hid (metF_in hin)
          have hR : Hid (R = 1) := no2.out (not_nodup hlt hin)
          clear no2 no3 yes HR hP hin s5
          generalize xs[k] = x at *
          go_wp2_with (first 
    | ((with_reducible refine' Wl.out ?_; apply k_alloc (ty := 86) (dst := some 7) hS); (· exact .mk); clear hS; intro w7 b7 hS)
    | ((with_reducible refine' Wl.out ?_; apply k_load hS); (· exact .mk))
    | ((with_reducible refine' Wl.out ?_; apply k_loads hS); (· exact .mk))
    | go_skip
    | ((with_reducible refine' Wl.out ?_; apply kg_load hS); iterate 2 (· exact .mk))
    | ((with_reducible refine' Wl.out ?_; apply kg_loads hS); iterate 2 (· exact .mk))
    | ((with_reducible refine' Wl.out ?_; refine' wg_case ?_ ?_) <;> (intro hgW; (try (have hg2 := hgW; simp [go_sem] at hg2)); (first | (exfalso; assumption) | ((with_reducible refine' Wl.out ?_; apply k_no hgW)) | ((with_reducible refine' Wl.out ?_; apply kg_load hS ⟨hgW⟩); (· exact .mk)) | ((with_reducible refine' Wl.out ?_; apply kg_loads hS ⟨hgW⟩); (· exact .mk))); clear hgW))
    | ((with_reducible refine' Wl.out ?_; apply k_stores hS); (· exact .mk); clear hS; intro ws hS))
          replace hS := hS.drew
          refine startL (S := Sx _ [(b7, _)]) (by kernel_rfl) (hS.sx0.cons hS (by (repeat constructor))) (fun _ _ _ _ => trivial) (fun hHeld => ?_)
          focus (refine takeN 0 (v := ?_) rfl (by kernel_rfl) ?_ ?_; rotate_left; focus (intro w hSw; clear hSw; go_simp; try with_reducible rfl))
          try simp only [Act.put, nz1, nz2, nz3]
          focus (refine takeN 1 (v := ?_) rfl (by kernel_rfl) ?_ ?_; rotate_left; focus (intro w hSw; clear hSw; go_simp; try with_reducible rfl))
          try simp only [Act.put, nz1, nz2, nz3]
          refine takeN 2 rfl (by kernel_rfl) (yield_load rfl Tryz.underlying2 rfl rfl (by (first | (apply FindX.box; (· (repeat constructor)); rfl) | exact FindX.mem (by assumption)))) ?_
          try simp only [Act.put, nz1, nz2, nz3]
          refine wpAnyH_ready (rs := [3]) (by kernel_rfl) (by simp) ?_
          refine consL 3 rfl (fun K hK => ?_) AllReadyH.nil
          (with_reducible apply s_lookup hS mapT); (· exact rfl); (· (repeat constructor)); (· exact rfl); (· exact i2); (· exact hmet.out)
          refine hK.out _ _ (by first | exact (hS.sx0.cons hS (by (repeat constructor))) | exact Sx.le (by assumption) (hS.sx0.cons hS (by (repeat constructor)))) (fun hHeld => ?_)
          clear hK K
          try simp only [Act.put, nz1, nz2, nz3]
          focus (refine takeN 4 (v := ?_) rfl (by kernel_rfl) ?_ ?_; rotate_left; focus (intro w hSw; clear hSw; go_simp; try with_reducible rfl))
          try simp only [Act.put, nz1, nz2, nz3]
          focus (refine takeN 5 (v := ?_) rfl (by kernel_rfl) ?_ ?_; rotate_left; focus (intro w hSw; clear hSw; go_simp; try with_reducible rfl))
          try simp only [Act.put, nz1, nz2, nz3]
          first | (focus (refine takeG 6 (v := ?_) rfl (by kernel_rfl) ?_ ?_ ?_; rotate_left; (focus (first | rfl | (go_simp <;> fail))); (focus (intro w hSw; clear hSw; go_simp; try with_reducible rfl)))) | (refine skipG 6 rfl (by kernel_rfl) ?_ ?_; (focus (first | rfl | (go_simp <;> fail))))
          try simp only [Act.put, nz1, nz2, nz3]
          first | (focus (refine takeG 7 (v := ?_) rfl (by kernel_rfl) ?_ ?_ ?_; rotate_left; (focus (first | rfl | (go_simp <;> fail))); (focus (intro w hSw; clear hSw; go_simp; try with_reducible rfl)))) | (refine skipG 7 rfl (by kernel_rfl) ?_ ?_; (focus (first | rfl | (go_simp <;> fail))))
          try simp only [Act.put, nz1, nz2, nz3]
          first | (focus (refine takeG 8 (v := ?_) rfl (by kernel_rfl) ?_ ?_ ?_; rotate_left; (focus (first | rfl | (go_simp <;> fail))); (focus (intro w hSw; clear hSw; go_simp; try with_reducible rfl)))) | (refine skipG 8 rfl (by kernel_rfl) ?_ ?_; (focus (first | rfl | (go_simp <;> fail))))
          try simp only [Act.put, nz1, nz2, nz3]
          first | (focus (refine takeG 9 (v := ?_) rfl (by kernel_rfl) ?_ ?_ ?_; rotate_left; (focus (first | rfl | (go_simp <;> fail))); (focus (intro w hSw; clear hSw; go_simp; try with_reducible rfl)))) | (refine skipG 9 rfl (by kernel_rfl) ?_ ?_; (focus (first | rfl | (go_simp <;> fail))))
          try simp only [Act.put, nz1, nz2, nz3]
          first | (focus (refine takeG 10 (v := ?_) rfl (by kernel_rfl) ?_ ?_ ?_; rotate_left; (focus (first | rfl | (go_simp <;> fail))); (focus (intro w hSw; clear hSw; go_simp; try with_reducible rfl)))) | (refine skipG 10 rfl (by kernel_rfl) ?_ ?_; (focus (first | rfl | (go_simp <;> fail))))
          try simp only [Act.put, nz1, nz2, nz3]
          first | (focus (refine takeG 11 (v := ?_) rfl (by kernel_rfl) ?_ ?_ ?_; rotate_left; (focus (first | rfl | (go_simp <;> fail))); (focus (intro w hSw; clear hSw; go_simp; try with_reducible rfl)))) | (refine skipG 11 rfl (by kernel_rfl) ?_ ?_; (focus (first | rfl | (go_simp <;> fail))))
          try simp only [Act.put, nz1, nz2, nz3]
          first | (focus (refine takeG 12 (v := ?_) rfl (by kernel_rfl) ?_ ?_ ?_; rotate_left; (focus (first | rfl | (go_simp <;> fail))); (focus (intro w hSw; clear hSw; go_simp; try with_reducible rfl)))) | (refine skipG 12 rfl (by kernel_rfl) ?_ ?_; (focus (first | rfl | (go_simp <;> fail))))
          try simp only [Act.put, nz1, nz2, nz3]
          first | (focus (refine takeG 13 (v := ?_) rfl (by kernel_rfl) ?_ ?_ ?_; rotate_left; (focus (first | rfl | (go_simp <;> fail))); (focus (intro w hSw; clear hSw; go_simp; try with_reducible rfl)))) | (refine skipG 13 rfl (by kernel_rfl) ?_ ?_; (focus (first | rfl | (go_simp <;> fail))))
          try simp only [Act.put, nz1, nz2, nz3]
          first | (focus (refine' takeG 15 rfl (by kernel_rfl) ?_ ?_ ?_; rotate_left; (focus (first | rfl | (go_simp <;> fail))); (focus (intro w hSw; refine' yield_loads rfl rowT86 rfl ?_ w hSw; (first | (apply FindsX.box; (· (repeat constructor)); (· (repeat constructor)); done) | (refine FindsX.mem (by assumption) ?_; first | rfl | assumption | (simp; done))))))) | (refine skipG 15 rfl (by kernel_rfl) ?_ ?_; (focus (first | rfl | (go_simp <;> fail))))
          try simp only [Act.put, nz1, nz2, nz3]
          refine wpAnyH_ready (rs := [14]) (by kernel_rfl) (by simp) ?_
          refine consL 14 rfl (fun K hK => ?_) AllReadyH.nil
          rw [if_neg (by exact Bool.false_ne_true)]
          refine hK.out _ _ (by first | exact (hS.sx0.cons hS (by (repeat constructor))) | exact Sx.le (by assumption) (hS.sx0.cons hS (by (repeat constructor)))) (fun hHeld => ?_)
          clear hK K
          try simp only [Act.put, nz1, nz2, nz3]
          refine wpAnyH_ready (rs := [16]) (by kernel_rfl) (by simp) ?_
          refine consL 16 rfl (fun K hK => ?_) AllReadyH.nil
          rw [if_neg (by exact Bool.false_ne_true)]
          refine hK.out _ _ (by first | exact (hS.sx0.cons hS (by (repeat constructor))) | exact Sx.le (by assumption) (hS.sx0.cons hS (by (repeat constructor)))) (fun hHeld => ?_)
          clear hK K
          try simp only [Act.put, nz1, nz2, nz3]
          first | (focus (refine takeG 17 (v := ?_) rfl (by kernel_rfl) ?_ ?_ ?_; rotate_left; (focus (first | rfl | (go_simp <;> fail))); (focus (intro w hSw; clear hSw; go_simp; try with_reducible rfl)))) | (refine skipG 17 rfl (by kernel_rfl) ?_ ?_; (focus (first | rfl | (go_simp <;> fail))))
          try simp only [Act.put, nz1, nz2, nz3]
          focus (refine takeN 18 (v := ?_) rfl (by kernel_rfl) ?_ ?_; rotate_left; focus (intro w hSw; clear hSw; go_simp; try with_reducible rfl))
          try simp only [Act.put, nz1, nz2, nz3]
          refine wpAnyH_done (by kernel_rfl) ?_ _
          refine NoPanic.normal ?_
          all_goals
            go_wp2_with fail
            go_ret
            exact ⟨_, m, rfl, congrArg (Value.int .i64) hR.out.symm, hS.done⟩
        · have hmet := Lib.hid (metF_out hin)
          have hfun := Lib.hid (metF_succ hlt rfl)
          have hsz : k < maxLen := by simp only [maxLen]; omega
          rcases Nat.eq_zero_or_pos k with hk0 | hk0
          · have hN : Hid (PreH xs (k + 1)) := hP.out.succ hlt rfl hin (fun h => by omega)
            subst hk0
            clear no2 no3 yes hP hin s5
            generalize xs[0] = x at *
            go_wp2_with (first 
    | ((with_reducible refine' Wl.out ?_; apply k_alloc (ty := 86) (dst := some 7) hS); (· exact .mk); clear hS; intro w7 b7 hS)
    | ((with_reducible refine' Wl.out ?_; apply k_load hS); (· exact .mk))
    | ((with_reducible refine' Wl.out ?_; apply k_loads hS); (· exact .mk))
    | go_skip
    | ((with_reducible refine' Wl.out ?_; apply kg_load hS); iterate 2 (· exact .mk))
    | ((with_reducible refine' Wl.out ?_; apply kg_loads hS); iterate 2 (· exact .mk))
    | ((with_reducible refine' Wl.out ?_; refine' wg_case ?_ ?_) <;> (intro hgW; (try (have hg2 := hgW; simp [go_sem] at hg2)); (first | (exfalso; assumption) | ((with_reducible refine' Wl.out ?_; apply k_no hgW)) | ((with_reducible refine' Wl.out ?_; apply kg_load hS ⟨hgW⟩); (· exact .mk)) | ((with_reducible refine' Wl.out ?_; apply kg_loads hS ⟨hgW⟩); (· exact .mk))); clear hgW))
    | ((with_reducible refine' Wl.out ?_; apply k_stores hS); (· exact .mk); clear hS; intro ws hS))
            replace hS := hS.drew
            refine startL (S := Sx _ [(b7, _)]) (by kernel_rfl) (hS.sx0.cons hS (by (repeat constructor))) (fun _ _ _ _ => trivial) (fun hHeld => ?_)
            focus (refine takeN 0 (v := ?_) rfl (by kernel_rfl) ?_ ?_; rotate_left; focus (intro w hSw; clear hSw; go_simp; try with_reducible rfl))
            try simp only [Act.put, nz1, nz2, nz3]
            focus (refine takeN 1 (v := ?_) rfl (by kernel_rfl) ?_ ?_; rotate_left; focus (intro w hSw; clear hSw; go_simp; try with_reducible rfl))
            try simp only [Act.put, nz1, nz2, nz3]
            refine takeN 2 rfl (by kernel_rfl) (yield_load rfl Tryz.underlying2 rfl rfl (by (first | (apply FindX.box; (· (repeat constructor)); rfl) | exact FindX.mem (by assumption)))) ?_
            try simp only [Act.put, nz1, nz2, nz3]
            refine wpAnyH_ready (rs := [3]) (by kernel_rfl) (by simp) ?_
            refine consL 3 rfl (fun K hK => ?_) AllReadyH.nil
            (with_reducible apply s_lookup hS mapT); (· exact rfl); (· (repeat constructor)); (· exact rfl); (· exact i2); (· exact hmet.out)
            refine hK.out _ _ (by first | exact (hS.sx0.cons hS (by (repeat constructor))) | exact Sx.le (by assumption) (hS.sx0.cons hS (by (repeat constructor)))) (fun hHeld => ?_)
            clear hK K
            try simp only [Act.put, nz1, nz2, nz3]
            focus (refine takeN 4 (v := ?_) rfl (by kernel_rfl) ?_ ?_; rotate_left; focus (intro w hSw; clear hSw; go_simp; try with_reducible rfl))
            try simp only [Act.put, nz1, nz2, nz3]
            focus (refine takeN 5 (v := ?_) rfl (by kernel_rfl) ?_ ?_; rotate_left; focus (intro w hSw; clear hSw; go_simp; try with_reducible rfl))
            try simp only [Act.put, nz1, nz2, nz3]
            first | (focus (refine takeG 6 (v := ?_) rfl (by kernel_rfl) ?_ ?_ ?_; rotate_left; (focus (first | rfl | (go_simp <;> fail))); (focus (intro w hSw; clear hSw; go_simp; try with_reducible rfl)))) | (refine skipG 6 rfl (by kernel_rfl) ?_ ?_; (focus (first | rfl | (go_simp <;> fail))))
            try simp only [Act.put, nz1, nz2, nz3]
            first | (focus (refine takeG 7 (v := ?_) rfl (by kernel_rfl) ?_ ?_ ?_; rotate_left; (focus (first | rfl | (go_simp <;> fail))); (focus (intro w hSw; clear hSw; go_simp; try with_reducible rfl)))) | (refine skipG 7 rfl (by kernel_rfl) ?_ ?_; (focus (first | rfl | (go_simp <;> fail))))
            try simp only [Act.put, nz1, nz2, nz3]
            first | (focus (refine takeG 8 (v := ?_) rfl (by kernel_rfl) ?_ ?_ ?_; rotate_left; (focus (first | rfl | (go_simp <;> fail))); (focus (intro w hSw; clear hSw; go_simp; try with_reducible rfl)))) | (refine skipG 8 rfl (by kernel_rfl) ?_ ?_; (focus (first | rfl | (go_simp <;> fail))))
            try simp only [Act.put, nz1, nz2, nz3]
            first | (focus (refine takeG 9 (v := ?_) rfl (by kernel_rfl) ?_ ?_ ?_; rotate_left; (focus (first | rfl | (go_simp <;> fail))); (focus (intro w hSw; clear hSw; go_simp; try with_reducible rfl)))) | (refine skipG 9 rfl (by kernel_rfl) ?_ ?_; (focus (first | rfl | (go_simp <;> fail))))
            try simp only [Act.put, nz1, nz2, nz3]
            first | (focus (refine takeG 10 (v := ?_) rfl (by kernel_rfl) ?_ ?_ ?_; rotate_left; (focus (first | rfl | (go_simp <;> fail))); (focus (intro w hSw; clear hSw; go_simp; try with_reducible rfl)))) | (refine skipG 10 rfl (by kernel_rfl) ?_ ?_; (focus (first | rfl | (go_simp <;> fail))))
            try simp only [Act.put, nz1, nz2, nz3]
            first | (focus (refine takeG 11 (v := ?_) rfl (by kernel_rfl) ?_ ?_ ?_; rotate_left; (focus (first | rfl | (go_simp <;> fail))); (focus (intro w hSw; clear hSw; go_simp; try with_reducible rfl)))) | (refine skipG 11 rfl (by kernel_rfl) ?_ ?_; (focus (first | rfl | (go_simp <;> fail))))
            try simp only [Act.put, nz1, nz2, nz3]
            first | (focus (refine takeG 12 (v := ?_) rfl (by kernel_rfl) ?_ ?_ ?_; rotate_left; (focus (first | rfl | (go_simp <;> fail))); (focus (intro w hSw; clear hSw; go_simp; try with_reducible rfl)))) | (refine skipG 12 rfl (by kernel_rfl) ?_ ?_; (focus (first | rfl | (go_simp <;> fail))))
            try simp only [Act.put, nz1, nz2, nz3]
            first | (focus (refine takeG 13 (v := ?_) rfl (by kernel_rfl) ?_ ?_ ?_; rotate_left; (focus (first | rfl | (go_simp <;> fail))); (focus (intro w hSw; clear hSw; go_simp; try with_reducible rfl)))) | (refine skipG 13 rfl (by kernel_rfl) ?_ ?_; (focus (first | rfl | (go_simp <;> fail))))
            try simp only [Act.put, nz1, nz2, nz3]
            first | (focus (refine' takeG 15 rfl (by kernel_rfl) ?_ ?_ ?_; rotate_left; (focus (first | rfl | (go_simp <;> fail))); (focus (intro w hSw; refine' yield_loads rfl rowT86 rfl ?_ w hSw; (first | (apply FindsX.box; (· (repeat constructor)); (· (repeat constructor)); done) | (refine FindsX.mem (by assumption) ?_; first | rfl | assumption | (simp; done))))))) | (refine skipG 15 rfl (by kernel_rfl) ?_ ?_; (focus (first | rfl | (go_simp <;> fail))))
            try simp only [Act.put, nz1, nz2, nz3]
            refine wpAnyH_ready (rs := [14]) (by kernel_rfl) (by simp) ?_
            refine consL 14 rfl (fun K hK => ?_) AllReadyH.nil
            rw [if_neg (by exact Bool.false_ne_true)]
            refine hK.out _ _ (by first | exact (hS.sx0.cons hS (by (repeat constructor))) | exact Sx.le (by assumption) (hS.sx0.cons hS (by (repeat constructor)))) (fun hHeld => ?_)
            clear hK K
            try simp only [Act.put, nz1, nz2, nz3]
            refine wpAnyH_ready (rs := [16]) (by kernel_rfl) (by simp) ?_
            refine consL 16 rfl (fun K hK => ?_) AllReadyH.nil
            rw [if_neg (by exact Bool.false_ne_true)]
            refine hK.out _ _ (by first | exact (hS.sx0.cons hS (by (repeat constructor))) | exact Sx.le (by assumption) (hS.sx0.cons hS (by (repeat constructor)))) (fun hHeld => ?_)
            clear hK K
            try simp only [Act.put, nz1, nz2, nz3]
            first | (focus (refine takeG 17 (v := ?_) rfl (by kernel_rfl) ?_ ?_ ?_; rotate_left; (focus (first | rfl | (go_simp <;> fail))); (focus (intro w hSw; clear hSw; go_simp; try with_reducible rfl)))) | (refine skipG 17 rfl (by kernel_rfl) ?_ ?_; (focus (first | rfl | (go_simp <;> fail))))
            try simp only [Act.put, nz1, nz2, nz3]
            focus (refine takeN 18 (v := ?_) rfl (by kernel_rfl) ?_ ?_; rotate_left; focus (intro w hSw; clear hSw; go_simp; try with_reducible rfl))
            try simp only [Act.put, nz1, nz2, nz3]
            refine wpAnyH_done (by kernel_rfl) ?_ _
            refine NoPanic.normal ?_
            all_goals
              go_wp2_with (first 
    | ((with_reducible refine' Wl.out ?_; apply k_alloc (ty := 86) (dst := some 7) hS); (· exact .mk); clear hS; intro w7 b7 hS)
    | ((with_reducible refine' Wl.out ?_; apply k_load hS); (· exact .mk))
    | ((with_reducible refine' Wl.out ?_; apply k_loads hS); (· exact .mk))
    | go_skip
    | ((with_reducible refine' Wl.out ?_; apply kg_load hS); iterate 2 (· exact .mk))
    | ((with_reducible refine' Wl.out ?_; apply kg_loads hS); iterate 2 (· exact .mk))
    | ((with_reducible refine' Wl.out ?_; refine' wg_case ?_ ?_) <;> (intro hgW; (try (have hg2 := hgW; simp [go_sem] at hg2)); (first | (exfalso; assumption) | ((with_reducible refine' Wl.out ?_; apply k_no hgW)) | ((with_reducible refine' Wl.out ?_; apply kg_load hS ⟨hgW⟩); (· exact .mk)) | ((with_reducible refine' Wl.out ?_; apply kg_loads hS ⟨hgW⟩); (· exact .mk))); clear hgW))
    | ((with_reducible refine' Wl.out ?_; apply k_stores hS); (· exact .mk); clear hS; intro ws hS)
              | ((with_reducible refine' Wl.out ?_; apply wl_lookup hS mapT); (· exact rfl); (· (repeat constructor)); (· exact rfl); (· exact i2); (· exact hmet.out))
              | ((with_reducible refine' Wl.out ?_; apply wl_mapUpdate (c := 1) hS mapT); (· exact rfl); (· exact rfl); (· exact i2); (· exact rfl); (· exact ⟨by decide, by decide⟩); (· exact hsz); (· exact hfun.out); (· repeat constructor); clear hS; intro w55 hS))
              go_roundw
              case rel => exact ⟨0 + 1, hlt, by go_num, hN, hS.forget (x := .box b7 _) (by (repeat constructor))⟩
              case measure => simp [intOf]; omega
          · obtain ⟨p, rfl⟩ : ∃ p, k = p + 1 := ⟨k - 1, by omega⟩
            have hpl : p / 2 < xs.length := by omega
            obtain ⟨b2, o2, cs, e2, hcs, hcell⟩ := HR.out.get (p / 2) hpl
            cases e2
            obtain ⟨rfl, j1, j2⟩ := hitL_open hcs
            have hcy : ∀ j v, [Value.int .i64 xs[p / 2].dist, .int .i64 xs[p / 2].id][j]? = some v → m ⟨bq, oq + p / 2 * 2 + j, none⟩ = some v := hcell
            have s6 : xs[p / 2] = xs.getD ((p + 1 - 1) / 2) hz := by simp [List.getD, hpl]
            have hp1 : ¬ (xs.length : Int) ≤ (p : Int) / 2 := by omega
            have hp2 : ((p : Int) / 2).toNat = p / 2 := by omega
            have hp3 : (0 : Int) ≤ (p : Int) / 2 := by omega
            have hw1 : IntKind.i64.wrap (p : Int) = p := by simp [IntKind.wrap, IntKind.bits, IntKind.signed]; omega
            have hw3 : IntKind.i64.wrap ((p : Int) / 2) = (p : Int) / 2 := by simp [IntKind.wrap, IntKind.bits, IntKind.signed]; omega
            have hw2 : IntKind.i64.wrap ((p : Int).tdiv 2) = (p : Int) / 2 := by simp [IntKind.wrap, IntKind.bits, IntKind.signed, Int.tdiv_eq_ediv_of_nonneg]; omega
            clear hcs hcell
            by_cases hlt2 : xs[p / 2].lt xs[p + 1]
            · have hR : Hid (R = 1) := no3.out fun hh => hh (p + 1) (by omega) hlt (by rw [← s5, ← s6]; exact hlt2)
              clear no2 no3 yes hP hin s5 s6 HR hfun
              generalize xs[p + 1] = x at *
              generalize xs[p / 2] = y at *
              go_wp2_with (first 
    | ((with_reducible refine' Wl.out ?_; apply k_alloc (ty := 86) (dst := some 7) hS); (· exact .mk); clear hS; intro w7 b7 hS)
    | ((with_reducible refine' Wl.out ?_; apply k_load hS); (· exact .mk))
    | ((with_reducible refine' Wl.out ?_; apply k_loads hS); (· exact .mk))
    | go_skip
    | ((with_reducible refine' Wl.out ?_; apply kg_load hS); iterate 2 (· exact .mk))
    | ((with_reducible refine' Wl.out ?_; apply kg_loads hS); iterate 2 (· exact .mk))
    | ((with_reducible refine' Wl.out ?_; refine' wg_case ?_ ?_) <;> (intro hgW; (try (have hg2 := hgW; simp [go_sem] at hg2)); (first | (exfalso; assumption) | ((with_reducible refine' Wl.out ?_; apply k_no hgW)) | ((with_reducible refine' Wl.out ?_; apply kg_load hS ⟨hgW⟩); (· exact .mk)) | ((with_reducible refine' Wl.out ?_; apply kg_loads hS ⟨hgW⟩); (· exact .mk))); clear hgW))
    | ((with_reducible refine' Wl.out ?_; apply k_stores hS); (· exact .mk); clear hS; intro ws hS))
              replace hS := hS.drew
              refine startL (S := Sx _ [(b7, _)]) (by kernel_rfl) (hS.sx0.cons hS (by (repeat constructor))) (fun _ _ _ _ => trivial) (fun hHeld => ?_)
              focus (refine takeN 0 (v := ?_) rfl (by kernel_rfl) ?_ ?_; rotate_left; focus (intro w hSw; clear hSw; go_simp; try with_reducible rfl))
              try simp only [Act.put, nz1, nz2, nz3]
              focus (refine takeN 1 (v := ?_) rfl (by kernel_rfl) ?_ ?_; rotate_left; focus (intro w hSw; clear hSw; go_simp; try with_reducible rfl))
              try simp only [Act.put, nz1, nz2, nz3]
              refine takeN 2 rfl (by kernel_rfl) (yield_load rfl Tryz.underlying2 rfl rfl (by (first | (apply FindX.box; (· (repeat constructor)); rfl) | exact FindX.mem (by assumption)))) ?_
              try simp only [Act.put, nz1, nz2, nz3]
              refine wpAnyH_ready (rs := [3]) (by kernel_rfl) (by simp) ?_
              refine consL 3 rfl (fun K hK => ?_) AllReadyH.nil
              (with_reducible apply s_lookup hS mapT); (· exact rfl); (· (repeat constructor)); (· exact rfl); (· exact i2); (· exact hmet.out)
              refine hK.out _ _ (by first | exact (hS.sx0.cons hS (by (repeat constructor))) | exact Sx.le (by assumption) (hS.sx0.cons hS (by (repeat constructor)))) (fun hHeld => ?_)
              clear hK K
              try simp only [Act.put, nz1, nz2, nz3]
              focus (refine takeN 4 (v := ?_) rfl (by kernel_rfl) ?_ ?_; rotate_left; focus (intro w hSw; clear hSw; go_simp; try with_reducible rfl))
              try simp only [Act.put, nz1, nz2, nz3]
              focus (refine takeN 5 (v := ?_) rfl (by kernel_rfl) ?_ ?_; rotate_left; focus (intro w hSw; clear hSw; go_simp; try with_reducible rfl))
              try simp only [Act.put, nz1, nz2, nz3]
              first | (focus (refine takeG 6 (v := ?_) rfl (by kernel_rfl) ?_ ?_ ?_; rotate_left; (focus (first | rfl | (go_simp <;> fail))); (focus (intro w hSw; clear hSw; go_simp; try with_reducible rfl)))) | (refine skipG 6 rfl (by kernel_rfl) ?_ ?_; (focus (first | rfl | (go_simp <;> fail))))
              try simp only [Act.put, nz1, nz2, nz3]
              first | (focus (refine takeG 7 (v := ?_) rfl (by kernel_rfl) ?_ ?_ ?_; rotate_left; (focus (first | rfl | (go_simp <;> fail))); (focus (intro w hSw; clear hSw; go_simp; try with_reducible rfl)))) | (refine skipG 7 rfl (by kernel_rfl) ?_ ?_; (focus (first | rfl | (go_simp <;> fail))))
              try simp only [Act.put, nz1, nz2, nz3]
              first | (focus (refine takeG 8 (v := ?_) rfl (by kernel_rfl) ?_ ?_ ?_; rotate_left; (focus (first | rfl | (go_simp <;> fail))); (focus (intro w hSw; clear hSw; go_simp; try with_reducible rfl)))) | (refine skipG 8 rfl (by kernel_rfl) ?_ ?_; (focus (first | rfl | (go_simp <;> fail))))
              try simp only [Act.put, nz1, nz2, nz3]
              first | (focus (refine takeG 9 (v := ?_) rfl (by kernel_rfl) ?_ ?_ ?_; rotate_left; (focus (first | rfl | (go_simp <;> fail))); (focus (intro w hSw; clear hSw; go_simp; try with_reducible rfl)))) | (refine skipG 9 rfl (by kernel_rfl) ?_ ?_; (focus (first | rfl | (go_simp <;> fail))))
              try simp only [Act.put, nz1, nz2, nz3]
              first | (focus (refine takeG 10 (v := ?_) rfl (by kernel_rfl) ?_ ?_ ?_; rotate_left; (focus (first | rfl | (go_simp <;> fail))); (focus (intro w hSw; clear hSw; go_simp; try with_reducible rfl)))) | (refine skipG 10 rfl (by kernel_rfl) ?_ ?_; (focus (first | rfl | (go_simp <;> fail))))
              try simp only [Act.put, nz1, nz2, nz3]
              first | (focus (refine takeG 11 (v := ?_) rfl (by kernel_rfl) ?_ ?_ ?_; rotate_left; (focus (first | rfl | (go_simp <;> fail))); (focus (intro w hSw; clear hSw; go_simp; try with_reducible rfl)))) | (refine skipG 11 rfl (by kernel_rfl) ?_ ?_; (focus (first | rfl | (go_simp <;> fail))))
              try simp only [Act.put, nz1, nz2, nz3]
              first | (focus (refine takeG 12 (v := ?_) rfl (by kernel_rfl) ?_ ?_ ?_; rotate_left; (focus (first | rfl | (go_simp <;> fail))); (focus (intro w hSw; clear hSw; go_simp; try with_reducible rfl)))) | (refine skipG 12 rfl (by kernel_rfl) ?_ ?_; (focus (first | rfl | (go_simp <;> fail))))
              try simp only [Act.put, nz1, nz2, nz3]
              first | (focus (refine takeG 13 (v := ?_) rfl (by kernel_rfl) ?_ ?_ ?_; rotate_left; (focus (first | rfl | (go_simp <;> fail))); (focus (intro w hSw; clear hSw; go_simp; try with_reducible rfl)))) | (refine skipG 13 rfl (by kernel_rfl) ?_ ?_; (focus (first | rfl | (go_simp <;> fail))))
              try simp only [Act.put, nz1, nz2, nz3]
              first | (focus (refine' takeG 14 rfl (by kernel_rfl) ?_ ?_ ?_; rotate_left; (focus (first | rfl | (go_simp <;> fail))); (focus (intro w hSw; refine' yield_loads rfl rowT86 rfl ?_ w hSw; (first | (apply FindsX.box; (· (repeat constructor)); (· (repeat constructor)); done) | (refine FindsX.mem (by assumption) ?_; first | rfl | assumption | (simp; done))))))) | (refine skipG 14 rfl (by kernel_rfl) ?_ ?_; (focus (first | rfl | (go_simp <;> fail))))
              try simp only [Act.put, nz1, nz2, nz3]
              first | (focus (refine' takeG 15 rfl (by kernel_rfl) ?_ ?_ ?_; rotate_left; (focus (first | rfl | (go_simp <;> fail))); (focus (intro w hSw; refine' yield_loads rfl rowT86 rfl ?_ w hSw; (first | (apply FindsX.box; (· (repeat constructor)); (· (repeat constructor)); done) | (refine FindsX.mem (by assumption) ?_; first | rfl | assumption | (simp; done))))))) | (refine skipG 15 rfl (by kernel_rfl) ?_ ?_; (focus (first | rfl | (go_simp <;> fail))))
              try simp only [Act.put, nz1, nz2, nz3]
              refine wpAnyH_ready (rs := [16]) (by kernel_rfl) (by simp) ?_
              refine consL 16 rfl (fun K hK => ?_) AllReadyH.nil
              rw [if_pos (by rfl)]; go_simp; refine (less_c _ _ hS.inw y x).mono ?_; rintro e' w48 ⟨_, m48, rfl, hv48, hk48⟩; replace hS := hS.grow (grownBy_of_below hk48.below); clear hk48; rw [decide_eq_true hlt2] at hv48; subst hv48; go_wp2_with fail
              refine hK.out _ _ (by first | exact (hS.sx0.cons hS (by (repeat constructor))) | exact Sx.le (by assumption) (hS.sx0.cons hS (by (repeat constructor)))) (fun hHeld => ?_)
              clear hK K
              try simp only [Act.put, nz1, nz2, nz3]
              first | (focus (refine takeG 17 (v := ?_) rfl (by kernel_rfl) ?_ ?_ ?_; rotate_left; (focus (first | rfl | (go_simp <;> fail))); (focus (intro w hSw; clear hSw; go_simp; try with_reducible rfl)))) | (refine skipG 17 rfl (by kernel_rfl) ?_ ?_; (focus (first | rfl | (go_simp <;> fail))))
              try simp only [Act.put, nz1, nz2, nz3]
              focus (refine takeN 18 (v := ?_) rfl (by kernel_rfl) ?_ ?_; rotate_left; focus (intro w hSw; clear hSw; go_simp; try with_reducible rfl))
              try simp only [Act.put, nz1, nz2, nz3]
              refine wpAnyH_done (by kernel_rfl) ?_ _
              refine NoPanic.normal ?_
              all_goals
                go_wp2_with fail
                go_ret
                exact ⟨_, m, rfl, congrArg (Value.int .i64) hR.out.symm, hS.done⟩
            · have hN : Hid (PreH xs (p + 1 + 1)) := hP.out.succ hlt rfl hin (fun _ => by rw [← s6]; exact hlt2)
              clear no2 no3 yes hP hin s5 s6
              generalize xs[p + 1] = x at *
              generalize xs[p / 2] = y at *
              go_wp2_with (first 
    | ((with_reducible refine' Wl.out ?_; apply k_alloc (ty := 86) (dst := some 7) hS); (· exact .mk); clear hS; intro w7 b7 hS)
    | ((with_reducible refine' Wl.out ?_; apply k_load hS); (· exact .mk))
    | ((with_reducible refine' Wl.out ?_; apply k_loads hS); (· exact .mk))
    | go_skip
    | ((with_reducible refine' Wl.out ?_; apply kg_load hS); iterate 2 (· exact .mk))
    | ((with_reducible refine' Wl.out ?_; apply kg_loads hS); iterate 2 (· exact .mk))
    | ((with_reducible refine' Wl.out ?_; refine' wg_case ?_ ?_) <;> (intro hgW; (try (have hg2 := hgW; simp [go_sem] at hg2)); (first | (exfalso; assumption) | ((with_reducible refine' Wl.out ?_; apply k_no hgW)) | ((with_reducible refine' Wl.out ?_; apply kg_load hS ⟨hgW⟩); (· exact .mk)) | ((with_reducible refine' Wl.out ?_; apply kg_loads hS ⟨hgW⟩); (· exact .mk))); clear hgW))
    | ((with_reducible refine' Wl.out ?_; apply k_stores hS); (· exact .mk); clear hS; intro ws hS))
              replace hS := hS.drew
              refine startL (S := Sx _ [(b7, _)]) (by kernel_rfl) (hS.sx0.cons hS (by (repeat constructor))) (fun _ _ _ _ => trivial) (fun hHeld => ?_)
              focus (refine takeN 0 (v := ?_) rfl (by kernel_rfl) ?_ ?_; rotate_left; focus (intro w hSw; clear hSw; go_simp; try with_reducible rfl))
              try simp only [Act.put, nz1, nz2, nz3]
              focus (refine takeN 1 (v := ?_) rfl (by kernel_rfl) ?_ ?_; rotate_left; focus (intro w hSw; clear hSw; go_simp; try with_reducible rfl))
              try simp only [Act.put, nz1, nz2, nz3]
              refine takeN 2 rfl (by kernel_rfl) (yield_load rfl Tryz.underlying2 rfl rfl (by (first | (apply FindX.box; (· (repeat constructor)); rfl) | exact FindX.mem (by assumption)))) ?_
              try simp only [Act.put, nz1, nz2, nz3]
              refine wpAnyH_ready (rs := [3]) (by kernel_rfl) (by simp) ?_
              refine consL 3 rfl (fun K hK => ?_) AllReadyH.nil
              (with_reducible apply s_lookup hS mapT); (· exact rfl); (· (repeat constructor)); (· exact rfl); (· exact i2); (· exact hmet.out)
              refine hK.out _ _ (by first | exact (hS.sx0.cons hS (by (repeat constructor))) | exact Sx.le (by assumption) (hS.sx0.cons hS (by (repeat constructor)))) (fun hHeld => ?_)
              clear hK K
              try simp only [Act.put, nz1, nz2, nz3]
              focus (refine takeN 4 (v := ?_) rfl (by kernel_rfl) ?_ ?_; rotate_left; focus (intro w hSw; clear hSw; go_simp; try with_reducible rfl))
              try simp only [Act.put, nz1, nz2, nz3]
              focus (refine takeN 5 (v := ?_) rfl (by kernel_rfl) ?_ ?_; rotate_left; focus (intro w hSw; clear hSw; go_simp; try with_reducible rfl))
              try simp only [Act.put, nz1, nz2, nz3]
              first | (focus (refine takeG 6 (v := ?_) rfl (by kernel_rfl) ?_ ?_ ?_; rotate_left; (focus (first | rfl | (go_simp <;> fail))); (focus (intro w hSw; clear hSw; go_simp; try with_reducible rfl)))) | (refine skipG 6 rfl (by kernel_rfl) ?_ ?_; (focus (first | rfl | (go_simp <;> fail))))
              try simp only [Act.put, nz1, nz2, nz3]
              first | (focus (refine takeG 7 (v := ?_) rfl (by kernel_rfl) ?_ ?_ ?_; rotate_left; (focus (first | rfl | (go_simp <;> fail))); (focus (intro w hSw; clear hSw; go_simp; try with_reducible rfl)))) | (refine skipG 7 rfl (by kernel_rfl) ?_ ?_; (focus (first | rfl | (go_simp <;> fail))))
              try simp only [Act.put, nz1, nz2, nz3]
              first | (focus (refine takeG 8 (v := ?_) rfl (by kernel_rfl) ?_ ?_ ?_; rotate_left; (focus (first | rfl | (go_simp <;> fail))); (focus (intro w hSw; clear hSw; go_simp; try with_reducible rfl)))) | (refine skipG 8 rfl (by kernel_rfl) ?_ ?_; (focus (first | rfl | (go_simp <;> fail))))
              try simp only [Act.put, nz1, nz2, nz3]
              first | (focus (refine takeG 9 (v := ?_) rfl (by kernel_rfl) ?_ ?_ ?_; rotate_left; (focus (first | rfl | (go_simp <;> fail))); (focus (intro w hSw; clear hSw; go_simp; try with_reducible rfl)))) | (refine skipG 9 rfl (by kernel_rfl) ?_ ?_; (focus (first | rfl | (go_simp <;> fail))))
              try simp only [Act.put, nz1, nz2, nz3]
              first | (focus (refine takeG 10 (v := ?_) rfl (by kernel_rfl) ?_ ?_ ?_; rotate_left; (focus (first | rfl | (go_simp <;> fail))); (focus (intro w hSw; clear hSw; go_simp; try with_reducible rfl)))) | (refine skipG 10 rfl (by kernel_rfl) ?_ ?_; (focus (first | rfl | (go_simp <;> fail))))
              try simp only [Act.put, nz1, nz2, nz3]
              first | (focus (refine takeG 11 (v := ?_) rfl (by kernel_rfl) ?_ ?_ ?_; rotate_left; (focus (first | rfl | (go_simp <;> fail))); (focus (intro w hSw; clear hSw; go_simp; try with_reducible rfl)))) | (refine skipG 11 rfl (by kernel_rfl) ?_ ?_; (focus (first | rfl | (go_simp <;> fail))))
              try simp only [Act.put, nz1, nz2, nz3]
              first | (focus (refine takeG 12 (v := ?_) rfl (by kernel_rfl) ?_ ?_ ?_; rotate_left; (focus (first | rfl | (go_simp <;> fail))); (focus (intro w hSw; clear hSw; go_simp; try with_reducible rfl)))) | (refine skipG 12 rfl (by kernel_rfl) ?_ ?_; (focus (first | rfl | (go_simp <;> fail))))
              try simp only [Act.put, nz1, nz2, nz3]
              first | (focus (refine takeG 13 (v := ?_) rfl (by kernel_rfl) ?_ ?_ ?_; rotate_left; (focus (first | rfl | (go_simp <;> fail))); (focus (intro w hSw; clear hSw; go_simp; try with_reducible rfl)))) | (refine skipG 13 rfl (by kernel_rfl) ?_ ?_; (focus (first | rfl | (go_simp <;> fail))))
              try simp only [Act.put, nz1, nz2, nz3]
              first | (focus (refine' takeG 14 rfl (by kernel_rfl) ?_ ?_ ?_; rotate_left; (focus (first | rfl | (go_simp <;> fail))); (focus (intro w hSw; refine' yield_loads rfl rowT86 rfl ?_ w hSw; (first | (apply FindsX.box; (· (repeat constructor)); (· (repeat constructor)); done) | (refine FindsX.mem (by assumption) ?_; first | rfl | assumption | (simp; done))))))) | (refine skipG 14 rfl (by kernel_rfl) ?_ ?_; (focus (first | rfl | (go_simp <;> fail))))
              try simp only [Act.put, nz1, nz2, nz3]
              first | (focus (refine' takeG 15 rfl (by kernel_rfl) ?_ ?_ ?_; rotate_left; (focus (first | rfl | (go_simp <;> fail))); (focus (intro w hSw; refine' yield_loads rfl rowT86 rfl ?_ w hSw; (first | (apply FindsX.box; (· (repeat constructor)); (· (repeat constructor)); done) | (refine FindsX.mem (by assumption) ?_; first | rfl | assumption | (simp; done))))))) | (refine skipG 15 rfl (by kernel_rfl) ?_ ?_; (focus (first | rfl | (go_simp <;> fail))))
              try simp only [Act.put, nz1, nz2, nz3]
              refine wpAnyH_ready (rs := [16]) (by kernel_rfl) (by simp) ?_
              refine consL 16 rfl (fun K hK => ?_) AllReadyH.nil
              rw [if_pos (by rfl)]; go_simp; refine (less_c _ _ hS.inw y x).mono ?_; rintro e' w48 ⟨_, m48, rfl, hv48, hk48⟩; replace hS := hS.grow (grownBy_of_below hk48.below); clear hk48; rw [decide_eq_false hlt2] at hv48; subst hv48; go_wp2_with fail
              refine hK.out _ _ (by first | exact (hS.sx0.cons hS (by (repeat constructor))) | exact Sx.le (by assumption) (hS.sx0.cons hS (by (repeat constructor)))) (fun hHeld => ?_)
              clear hK K
              try simp only [Act.put, nz1, nz2, nz3]
              first | (focus (refine takeG 17 (v := ?_) rfl (by kernel_rfl) ?_ ?_ ?_; rotate_left; (focus (first | rfl | (go_simp <;> fail))); (focus (intro w hSw; clear hSw; go_simp; try with_reducible rfl)))) | (refine skipG 17 rfl (by kernel_rfl) ?_ ?_; (focus (first | rfl | (go_simp <;> fail))))
              try simp only [Act.put, nz1, nz2, nz3]
              focus (refine takeN 18 (v := ?_) rfl (by kernel_rfl) ?_ ?_; rotate_left; focus (intro w hSw; clear hSw; go_simp; try with_reducible rfl))
              try simp only [Act.put, nz1, nz2, nz3]
              refine wpAnyH_done (by kernel_rfl) ?_ _
              refine NoPanic.normal ?_
              all_goals
                go_wp2_with (first 
    | ((with_reducible refine' Wl.out ?_; apply k_alloc (ty := 86) (dst := some 7) hS); (· exact .mk); clear hS; intro w7 b7 hS)
    | ((with_reducible refine' Wl.out ?_; apply k_load hS); (· exact .mk))
    | ((with_reducible refine' Wl.out ?_; apply k_loads hS); (· exact .mk))
    | go_skip
    | ((with_reducible refine' Wl.out ?_; apply kg_load hS); iterate 2 (· exact .mk))
    | ((with_reducible refine' Wl.out ?_; apply kg_loads hS); iterate 2 (· exact .mk))
    | ((with_reducible refine' Wl.out ?_; refine' wg_case ?_ ?_) <;> (intro hgW; (try (have hg2 := hgW; simp [go_sem] at hg2)); (first | (exfalso; assumption) | ((with_reducible refine' Wl.out ?_; apply k_no hgW)) | ((with_reducible refine' Wl.out ?_; apply kg_load hS ⟨hgW⟩); (· exact .mk)) | ((with_reducible refine' Wl.out ?_; apply kg_loads hS ⟨hgW⟩); (· exact .mk))); clear hgW))
    | ((with_reducible refine' Wl.out ?_; apply k_stores hS); (· exact .mk); clear hS; intro ws hS)
                | ((with_reducible refine' Wl.out ?_; apply wl_lookup hS mapT); (· exact rfl); (· (repeat constructor)); (· exact rfl); (· exact i2); (· exact hmet.out))
                | ((with_reducible refine' Wl.out ?_; apply wl_mapUpdate (c := 1) hS mapT); (· exact rfl); (· exact rfl); (· exact i2); (· exact rfl); (· exact ⟨by decide, by decide⟩); (· exact hsz); (· exact hfun.out); (· repeat constructor); clear hS; intro w55 hS))
                go_roundw
                case rel => exact ⟨p + 1 + 1, hlt, by go_num, hN, hS.forget (x := .box b7 _) (by (repeat constructor))⟩
                case measure => simp [intOf]; omega
      · obtain rfl : k = xs.length := by omega
        have hR := Lib.hid (yes.out hP.out)
        clear yes
        go_wp2
        go_ret
        exact ⟨_, m, rfl, congrArg (Value.int .i64) hR.out.symm, hS.done⟩
end Go.Proofs.YtnbhhdncbajkgaaGreatDoor
/- best.Add, Worst. -/
namespace Go.Proofs.YtnbhhdncbajkgaaGreatDoor
set_option linter.unusedVariables false
set_option linter.unusedSimpArgs false
open Go.RowKit Go.Shelf
set_option maxRecDepth 100000 in
set_option maxHeartbeats 2000000 in
theorem hclone_c (m : Mem) (w : World) (hm : m.In w) (v : Value) {xs} (h : hitL.list.rd m [v] xs) : Calls Tryz.prog 92 #[v] w (RetRow hitL 86 w m xs) := by
  have qn : ∀ (w : World) (a : Option Addr) (n c n' c' : Nat), (binOp .eql 34 (.slice a n c) (.slice none n' c')).run Tryz.prog w = .ok (.bool a.isNone) w := fun w a n c n' c' => Lib.run_eql_slice_nil w _ _ a n c n' c' Tryz.underlying34
  have HH := Lib.hid h
  obtain ⟨p, c, rfl, h1, h2, h3, h4⟩ := Lay.list_open h
  have hS := St.start hm
  cases p with
  | none =>
    have : xs = [] := by
      rcases Nat.eq_zero_or_pos xs.length with h0 | h0
      · exact List.eq_nil_of_length_eq_zero h0
      · obtain ⟨b, o, e, _⟩ := h4 h0; cases e
    subst this
    clear h h1 h2 h3 h4 HH
    go_enter Tryz.func92, Tryz.ntmps92
    go_wp2
    go_ret
    exact ⟨none, 0, [], rfl, CellsOf.nil _ _, hS.nilRow _ _⟩
  | some a =>
    have HB := Lib.hid h3
    clear h h1 h2 h3 h4
    go_enter Tryz.func92, Tryz.ntmps92
    go_wp2_with (first
      | ((with_reducible refine' Wl.out ?_; apply wl_lit0 el_hit hS); clear hS; intro w5 b5 hS)
      | ((with_reducible refine' Wl.out ?_; apply wl_append hitL el_hit hS (by decide)); (· exact rfl); (· (repeat constructor)); (· exact rfl); (· exact HH.out); (· rw [Nat.zero_add]; exact HB.out); clear hS; intro w7 q7 c7 news7 hc7 hS; simp only [Nat.zero_add, List.nil_append] at hS))
    go_ret
    exact ⟨q7, c7, news7, by simp, hc7, hS⟩
theorem cellsOf_hits {m : Mem} : ∀ {cells : List Value} {xs : List Hit}, CellsOf hitL m cells xs → cells = cellsH xs ∧ ∀ x ∈ xs, InK .i64 x.dist ∧ InK .i64 x.id := by
  intro cells xs h
  obtain ⟨css, rfl, h2, h3⟩ := h
  induction xs generalizing css with
  | nil => 
    have : css = [] := List.eq_nil_of_length_eq_zero (by simpa using h2)
    subst this
    exact ⟨rfl, by simp⟩
  | cons x xs ih =>
    cases css with
    | nil => simp at h2
    | cons cs css =>
      obtain ⟨i1, i2⟩ := ih css (by simpa using h2) (fun i cs' x' a b => h3 (i + 1) cs' x' (by simpa using a) (by simpa using b))
      obtain ⟨e, k1, k2⟩ := hitL_open (h3 0 cs x rfl rfl)
      refine ⟨?_, fun y hy => ?_⟩
      · rw [List.flatten_cons, i1, e]; rfl
      · rcases List.mem_cons.1 hy with rfl | hy
        · exact ⟨k1, k2⟩
        · exact i2 y hy
theorem hits_cellsOf (m : Mem) : ∀ {xs : List Hit}, (∀ x ∈ xs, InK .i64 x.dist ∧ InK .i64 x.id) → CellsOf hitL m (cellsH xs) xs
  | [], _ => CellsOf.nil _ _
  | x :: xs, h => CellsOf.append (x1 := [x]) (CellsOf.one (hitL_mk (h x (by simp)).1 (h x (by simp)).2)) (hits_cellsOf m fun y hy => h y (by simp [hy]))
def HitsIn (xs : List Hit) : Prop := ∀ x ∈ xs, InK .i64 x.dist ∧ InK .i64 x.id
theorem hits_in {m : Mem} {v : Value} {xs : List Hit} (h : hitL.list.rd m [v] xs) : HitsIn xs := by
  obtain ⟨q, c, rfl, _, _, _, hrow⟩ := Lay.list_open h
  intro x hx
  obtain ⟨i, hi, rfl⟩ := List.getElem_of_mem hx
  obtain ⟨b, o, cs, _, hcs, _⟩ := hrow.get i hi
  exact (hitL_open hcs).2
/-- A hit more: what is there, and why not. -/
def addH (l : List Hit) (k : Int) (h : Hit) : List Hit := if okH l k ∧ fineH h ∧ l.any (fun x => decide (x.id = h.id)) = false then addL l k.toNat h else []
def addX (l : List Hit) (k : Int) (h : Hit) : Int := if okH l k ∧ fineH h then (if l.any (fun x => decide (x.id = h.id)) = false then 0 else 6) else 1
/-- A list of hits of the call's own, and an error. -/
def OwnHE (w : World) (m : Mem) (R : List Hit) (E : Int) (e : Ending) (w' : World) : Prop := ∃ q c, e = .returned (.tuple #[.slice q R.length c, .int .i64 E]) ∧ HitsIn R ∧ St [] w m w' [rowQ q c R.length (cellsH R)] m
theorem ent_same : Enters Tryz.prog 91 := enters_of Tryz.func91 (by kernel_rfl) rfl
theorem addX_bad {l : List Hit} {k : Int} {h : Hit} (hb : ¬ (okH l k ∧ fineH h)) : addX l k h = 1 ∧ addH l k h = [] := ⟨if_neg hb, if_neg fun hh => hb ⟨hh.1, hh.2.1⟩⟩
theorem addX_there {l : List Hit} {k : Int} {h : Hit} (ho : okH l k) (hf : fineH h) (ht : l.any (fun x => decide (x.id = h.id)) = true) : addX l k h = 6 ∧ addH l k h = [] := by
  refine ⟨?_, if_neg fun hh => by rw [ht] at hh; cases hh.2.2⟩
  unfold addX
  rw [if_pos ⟨ho, hf⟩, if_neg (by rw [ht]; exact Bool.noConfusion)]
theorem addX_ok {l : List Hit} {k : Int} {h : Hit} (ho : okH l k) (hf : fineH h) (ht : l.any (fun x => decide (x.id = h.id)) = false) : addX l k h = 0 ∧ addH l k h = addL l k.toNat h := by
  refine ⟨?_, if_pos ⟨ho, hf, ht⟩⟩
  unfold addX
  rw [if_pos ⟨ho, hf⟩, if_pos ht]
theorem St.noHits {w0 w : World} {m0 m : Mem} {es : List Ent} (hS : St [] w0 m0 w es m) : St [] w0 m0 w [rowQ none 0 0 (cellsH [])] m := hS.done.nilRow _ _
theorem oddB_fine {h : Hit} : oddB h = false ↔ fineH h := by have := any_odd (l := [h]); simpa using this
theorem addL_in {l : List Hit} {k : Nat} {h : Hit} (hh : Heap l l.length) (hl : HitsIn l) (hi : InK .i64 h.dist ∧ InK .i64 h.id) : HitsIn (addL l k h) := fun x hx => (pushed hh x hx).elim (hl x) fun e => e ▸ hi
set_option maxRecDepth 100000 in
set_option maxHeartbeats 4000000 in
theorem badd_c (m : Mem) (w : World) (hm : m.In w) (v : Value) (xs : List Hit) (hr : hitL.list.rd m [v] xs) (K : Int) (hK : InK .i64 K) (h : Hit) (hh : InK .i64 h.dist ∧ InK .i64 h.id) :
    Calls Tryz.prog 68 #[v, .int .i64 K, hitA h] w (OwnHE w m (addH xs K h) (addX xs K h)) := by
  have hS := St.start hm
  have HH := Lib.hid hh
  have HL := Lib.hid hr
  obtain ⟨q, c, rfl, _, _, _, _⟩ := Lay.list_open hr
  clear hr hh
  by_cases hok : okH xs K
  · have hc : chkE xs K = 0 := if_pos hok
    by_cases hfine : fineH h
    · have ho : oddB h = false := oddB_fine.2 hfine
      cases hthere : xs.any (fun x => decide (x.id = h.id)) with
      | true =>
        obtain ⟨e1, e2⟩ := addX_there hok hfine hthere
        rw [e1, e2]
        clear e1 e2 hok hfine
        go_enter Tryz.func68, Tryz.ntmps68
        go_wp2_with (first 
    | ((with_reducible refine' Wl.out ?_; apply k_box (ty := 86) (y := (.tmp 2)) hS); (· exact .mk); clear hS; intro w5 b5 hS)
    | ((with_reducible refine' Wl.out ?_; apply k_alloc (ty := 130) (dst := some 8) hS); (· exact .mk); clear hS; intro w8 b8 hS)
    | ((with_reducible refine' Wl.out ?_; apply k_load hS); (· exact .mk))
    | ((with_reducible refine' Wl.out ?_; apply k_loads hS); (· exact .mk))
    | go_skip
    | ((with_reducible refine' Wl.out ?_; apply kg_load hS); iterate 2 (· exact .mk))
    | ((with_reducible refine' Wl.out ?_; apply kg_loads hS); iterate 2 (· exact .mk))
    | ((with_reducible refine' Wl.out ?_; refine' wg_case ?_ ?_) <;> (intro hgW; (try (have hg2 := hgW; simp [go_sem] at hg2)); (first | (exfalso; assumption) | ((with_reducible refine' Wl.out ?_; apply k_no hgW)) | ((with_reducible refine' Wl.out ?_; apply kg_load hS ⟨hgW⟩); (· exact .mk)) | ((with_reducible refine' Wl.out ?_; apply kg_loads hS ⟨hgW⟩); (· exact .mk))); clear hgW))
    | ((with_reducible refine' Wl.out ?_; apply k_store hS); (· exact .mk); clear hS; intro ws hS)
    | ((with_reducible refine' Wl.out ?_; apply k_storeR hS); (· exact .mk); clear hS; intro ws hS)
          | (go_at_call 88; refine (bcheck_c m _ hS.inw _ xs HL.out K hK).mono ?_; rintro e' w12 ⟨_, m12, rfl, hv12, hk12⟩; replace hS := hS.grow (grownBy_of_below hk12.below); clear hk12; rw [hc] at hv12; subst hv12)
          | (go_at_call 89; refine (odd_c m _ hS.inw h).mono ?_; rintro e' w16 ⟨_, m16, rfl, hv16, hk16⟩; replace hS := hS.grow (grownBy_of_below hk16.below); clear hk16; rw [ho] at hv16; subst hv16)
          | (go_at_call 90; refine (contains_c (World.mem _) _ (World.mem_in _) q c xs (Lay.mono _ hS.inw HL.out) _ _ (fun x => decide (x.id = h.id)) ent_same (Tells.one fun w' hm' x => same_id_c _ w' hm' x h b5 (hS.find (.box (by (repeat constructor)) rfl)))).mono ?_; rintro e' w21 ⟨_, m21, rfl, hv21, hk21⟩; replace hS := hS.grow (grownBy_of_below hk21.below); clear hk21; rw [hthere] at hv21; subst hv21))
        go_ret2
        exact ⟨none, 0, rfl, by simp [HitsIn], hS.noHits⟩
      | false =>
        obtain ⟨e1, e2⟩ := addX_ok hok hfine hthere
        obtain ⟨o1, o2, o3, _, _, o6⟩ := hok
        have hIn := Lib.hid (addL_in (k := K.toNat) o6 (hits_in HL.out) HH.out)
        obtain ⟨_, p2, _⟩ := push_ok (h := h) o6
        have hpl : Hid ((pushL xs h).length = xs.length + 1) := p2
        rw [e1, e2]
        clear e1 e2 hfine p2
        by_cases hbig : K < (xs.length : Int) + 1
        · have eL : addL xs K.toNat h = popL (pushL xs h) := if_pos (by rw [hpl.out]; omega)
          have hpp := Lib.hid (pop_ok (l := pushL xs h) (by rw [hpl.out]; omega) (by rw [hpl.out]; exact (push_ok (h := h) o6).2.2)).2.1
          rw [eL] at hIn ⊢
          clear eL o6
          go_enter Tryz.func68, Tryz.ntmps68
          go_wp2_with (first 
    | ((with_reducible refine' Wl.out ?_; apply k_box (ty := 86) (y := (.tmp 2)) hS); (· exact .mk); clear hS; intro w5 b5 hS)
    | ((with_reducible refine' Wl.out ?_; apply k_alloc (ty := 130) (dst := some 8) hS); (· exact .mk); clear hS; intro w8 b8 hS)
    | ((with_reducible refine' Wl.out ?_; apply k_load hS); (· exact .mk))
    | ((with_reducible refine' Wl.out ?_; apply k_loads hS); (· exact .mk))
    | go_skip
    | ((with_reducible refine' Wl.out ?_; apply kg_load hS); iterate 2 (· exact .mk))
    | ((with_reducible refine' Wl.out ?_; apply kg_loads hS); iterate 2 (· exact .mk))
    | ((with_reducible refine' Wl.out ?_; refine' wg_case ?_ ?_) <;> (intro hgW; (try (have hg2 := hgW; simp [go_sem] at hg2)); (first | (exfalso; assumption) | ((with_reducible refine' Wl.out ?_; apply k_no hgW)) | ((with_reducible refine' Wl.out ?_; apply kg_load hS ⟨hgW⟩); (· exact .mk)) | ((with_reducible refine' Wl.out ?_; apply kg_loads hS ⟨hgW⟩); (· exact .mk))); clear hgW))
    | ((with_reducible refine' Wl.out ?_; apply k_store hS); (· exact .mk); clear hS; intro ws hS)
    | ((with_reducible refine' Wl.out ?_; apply k_storeR hS); (· exact .mk); clear hS; intro ws hS)
          | (go_at_call 88; refine (bcheck_c m _ hS.inw _ xs HL.out K hK).mono ?_; rintro e' w12 ⟨_, m12, rfl, hv12, hk12⟩; replace hS := hS.grow (grownBy_of_below hk12.below); clear hk12; rw [hc] at hv12; subst hv12)
          | (go_at_call 89; refine (odd_c m _ hS.inw h).mono ?_; rintro e' w16 ⟨_, m16, rfl, hv16, hk16⟩; replace hS := hS.grow (grownBy_of_below hk16.below); clear hk16; rw [ho] at hv16; subst hv16)
          | (go_at_call 90; refine (contains_c (World.mem _) _ (World.mem_in _) q c xs (Lay.mono _ hS.inw HL.out) _ _ (fun x => decide (x.id = h.id)) ent_same (Tells.one fun w' hm' x => same_id_c _ w' hm' x h b5 (hS.find (.box (by (repeat constructor)) rfl)))).mono ?_; rintro e' w21 ⟨_, m21, rfl, hv21, hk21⟩; replace hS := hS.grow (grownBy_of_below hk21.below); clear hk21; rw [hthere] at hv21; subst hv21)
          | (go_at_call 92; refine (hclone_c m _ hS.inw _ HL.out).mono ?_; rintro e' w23 ⟨q23, c23, cells23, rfl, hcells, hk23⟩; replace hS := hS.callOwn hk23; clear hk23; obtain ⟨rfl, hin⟩ := cellsOf_hits hcells; clear hcells; simp only [List.cons_append, List.nil_append] at hS)
          | (go_at_call 93; refine (push_c (n := xs.length) (l := xs) h (St.sub (ls := [_, _]) hS) rfl (by omega)).mono ?_; rintro e' w27 ⟨rfl, g, c27, hk27⟩; replace hS := St.lendL (ls := [_, _]) hS hk27; clear hk27; simp only [List.cons_append, List.nil_append] at hS)
          | (go_at_call 94; refine (pop_c (n := xs.length) (l := pushL xs h) (St.sub (ls := [_, _]) hS) hpl.out (by omega)).mono ?_; rintro e' w33 ⟨⟨v33, rfl⟩, hk33⟩; replace hS := St.lendL (ls := [_, _]) hS hk33; clear hk33; simp only [List.cons_append, List.nil_append] at hS))
          go_ret2
          have e : (popL (pushL xs h)).length = xs.length := by rw [hpp.out, hpl.out]; omega
          exact ⟨some ⟨g, 0, none⟩, c27, by rw [e]; rfl, hIn.out, by rw [e]; exact (hS.forget (x := .box b8 _) (by (repeat constructor))).drop _ (by simp)⟩
        · have eL : addL xs K.toNat h = pushL xs h := if_neg (by rw [hpl.out]; omega)
          rw [eL] at hIn ⊢
          clear eL o6
          go_enter Tryz.func68, Tryz.ntmps68
          go_wp2_with (first 
    | ((with_reducible refine' Wl.out ?_; apply k_box (ty := 86) (y := (.tmp 2)) hS); (· exact .mk); clear hS; intro w5 b5 hS)
    | ((with_reducible refine' Wl.out ?_; apply k_alloc (ty := 130) (dst := some 8) hS); (· exact .mk); clear hS; intro w8 b8 hS)
    | ((with_reducible refine' Wl.out ?_; apply k_load hS); (· exact .mk))
    | ((with_reducible refine' Wl.out ?_; apply k_loads hS); (· exact .mk))
    | go_skip
    | ((with_reducible refine' Wl.out ?_; apply kg_load hS); iterate 2 (· exact .mk))
    | ((with_reducible refine' Wl.out ?_; apply kg_loads hS); iterate 2 (· exact .mk))
    | ((with_reducible refine' Wl.out ?_; refine' wg_case ?_ ?_) <;> (intro hgW; (try (have hg2 := hgW; simp [go_sem] at hg2)); (first | (exfalso; assumption) | ((with_reducible refine' Wl.out ?_; apply k_no hgW)) | ((with_reducible refine' Wl.out ?_; apply kg_load hS ⟨hgW⟩); (· exact .mk)) | ((with_reducible refine' Wl.out ?_; apply kg_loads hS ⟨hgW⟩); (· exact .mk))); clear hgW))
    | ((with_reducible refine' Wl.out ?_; apply k_store hS); (· exact .mk); clear hS; intro ws hS)
    | ((with_reducible refine' Wl.out ?_; apply k_storeR hS); (· exact .mk); clear hS; intro ws hS)
          | (go_at_call 88; refine (bcheck_c m _ hS.inw _ xs HL.out K hK).mono ?_; rintro e' w12 ⟨_, m12, rfl, hv12, hk12⟩; replace hS := hS.grow (grownBy_of_below hk12.below); clear hk12; rw [hc] at hv12; subst hv12)
          | (go_at_call 89; refine (odd_c m _ hS.inw h).mono ?_; rintro e' w16 ⟨_, m16, rfl, hv16, hk16⟩; replace hS := hS.grow (grownBy_of_below hk16.below); clear hk16; rw [ho] at hv16; subst hv16)
          | (go_at_call 90; refine (contains_c (World.mem _) _ (World.mem_in _) q c xs (Lay.mono _ hS.inw HL.out) _ _ (fun x => decide (x.id = h.id)) ent_same (Tells.one fun w' hm' x => same_id_c _ w' hm' x h b5 (hS.find (.box (by (repeat constructor)) rfl)))).mono ?_; rintro e' w21 ⟨_, m21, rfl, hv21, hk21⟩; replace hS := hS.grow (grownBy_of_below hk21.below); clear hk21; rw [hthere] at hv21; subst hv21)
          | (go_at_call 92; refine (hclone_c m _ hS.inw _ HL.out).mono ?_; rintro e' w23 ⟨q23, c23, cells23, rfl, hcells, hk23⟩; replace hS := hS.callOwn hk23; clear hk23; obtain ⟨rfl, hin⟩ := cellsOf_hits hcells; clear hcells; simp only [List.cons_append, List.nil_append] at hS)
          | (go_at_call 93; refine (push_c (n := xs.length) (l := xs) h (St.sub (ls := [_, _]) hS) rfl (by omega)).mono ?_; rintro e' w27 ⟨rfl, g, c27, hk27⟩; replace hS := St.lendL (ls := [_, _]) hS hk27; clear hk27; simp only [List.cons_append, List.nil_append] at hS)
          | (go_at_call 94; refine (pop_c (n := xs.length) (l := pushL xs h) (St.sub (ls := [_, _]) hS) hpl.out (by omega)).mono ?_; rintro e' w33 ⟨⟨v33, rfl⟩, hk33⟩; replace hS := St.lendL (ls := [_, _]) hS hk33; clear hk33; simp only [List.cons_append, List.nil_append] at hS))
          go_ret2
          exact ⟨some ⟨g, 0, none⟩, _, by rw [hpl.out]; rfl, hIn.out, by rw [hpl.out]; exact (hS.forget (x := .box b8 _) (by (repeat constructor))).drop _ (by simp)⟩
    · have ho : oddB h = true := by cases hx : oddB h with | true => rfl | false => exact absurd (oddB_fine.1 hx) hfine
      obtain ⟨e1, e2⟩ := addX_bad (l := xs) (k := K) (h := h) (fun hh => hfine hh.2)
      rw [e1, e2]
      clear e1 e2 hok hfine
      go_enter Tryz.func68, Tryz.ntmps68
      go_wp2_with (first 
    | ((with_reducible refine' Wl.out ?_; apply k_box (ty := 86) (y := (.tmp 2)) hS); (· exact .mk); clear hS; intro w5 b5 hS)
    | ((with_reducible refine' Wl.out ?_; apply k_alloc (ty := 130) (dst := some 8) hS); (· exact .mk); clear hS; intro w8 b8 hS)
    | ((with_reducible refine' Wl.out ?_; apply k_load hS); (· exact .mk))
    | ((with_reducible refine' Wl.out ?_; apply k_loads hS); (· exact .mk))
    | go_skip
    | ((with_reducible refine' Wl.out ?_; apply kg_load hS); iterate 2 (· exact .mk))
    | ((with_reducible refine' Wl.out ?_; apply kg_loads hS); iterate 2 (· exact .mk))
    | ((with_reducible refine' Wl.out ?_; refine' wg_case ?_ ?_) <;> (intro hgW; (try (have hg2 := hgW; simp [go_sem] at hg2)); (first | (exfalso; assumption) | ((with_reducible refine' Wl.out ?_; apply k_no hgW)) | ((with_reducible refine' Wl.out ?_; apply kg_load hS ⟨hgW⟩); (· exact .mk)) | ((with_reducible refine' Wl.out ?_; apply kg_loads hS ⟨hgW⟩); (· exact .mk))); clear hgW))
    | ((with_reducible refine' Wl.out ?_; apply k_store hS); (· exact .mk); clear hS; intro ws hS)
    | ((with_reducible refine' Wl.out ?_; apply k_storeR hS); (· exact .mk); clear hS; intro ws hS)
          | (go_at_call 88; refine (bcheck_c m _ hS.inw _ xs HL.out K hK).mono ?_; rintro e' w12 ⟨_, m12, rfl, hv12, hk12⟩; replace hS := hS.grow (grownBy_of_below hk12.below); clear hk12; rw [hc] at hv12; subst hv12)
          | (go_at_call 89; refine (odd_c m _ hS.inw h).mono ?_; rintro e' w16 ⟨_, m16, rfl, hv16, hk16⟩; replace hS := hS.grow (grownBy_of_below hk16.below); clear hk16; rw [ho] at hv16; subst hv16))
      go_ret2
      exact ⟨none, 0, rfl, by simp [HitsIn], hS.noHits⟩
  · have hc : chkE xs K = 1 := if_neg hok
    obtain ⟨e1, e2⟩ := addX_bad (l := xs) (k := K) (h := h) (fun hh => hok hh.1)
    rw [e1, e2]
    clear e1 e2 hok
    go_enter Tryz.func68, Tryz.ntmps68
    go_wp2_with (first 
    | ((with_reducible refine' Wl.out ?_; apply k_box (ty := 86) (y := (.tmp 2)) hS); (· exact .mk); clear hS; intro w5 b5 hS)
    | ((with_reducible refine' Wl.out ?_; apply k_alloc (ty := 130) (dst := some 8) hS); (· exact .mk); clear hS; intro w8 b8 hS)
    | ((with_reducible refine' Wl.out ?_; apply k_load hS); (· exact .mk))
    | ((with_reducible refine' Wl.out ?_; apply k_loads hS); (· exact .mk))
    | go_skip
    | ((with_reducible refine' Wl.out ?_; apply kg_load hS); iterate 2 (· exact .mk))
    | ((with_reducible refine' Wl.out ?_; apply kg_loads hS); iterate 2 (· exact .mk))
    | ((with_reducible refine' Wl.out ?_; refine' wg_case ?_ ?_) <;> (intro hgW; (try (have hg2 := hgW; simp [go_sem] at hg2)); (first | (exfalso; assumption) | ((with_reducible refine' Wl.out ?_; apply k_no hgW)) | ((with_reducible refine' Wl.out ?_; apply kg_load hS ⟨hgW⟩); (· exact .mk)) | ((with_reducible refine' Wl.out ?_; apply kg_loads hS ⟨hgW⟩); (· exact .mk))); clear hgW))
    | ((with_reducible refine' Wl.out ?_; apply k_store hS); (· exact .mk); clear hS; intro ws hS)
    | ((with_reducible refine' Wl.out ?_; apply k_storeR hS); (· exact .mk); clear hS; intro ws hS)
          | (go_at_call 88; refine (bcheck_c m _ hS.inw _ xs HL.out K hK).mono ?_; rintro e' w12 ⟨_, m12, rfl, hv12, hk12⟩; replace hS := hS.grow (grownBy_of_below hk12.below); clear hk12; rw [hc] at hv12; subst hv12))
    go_ret2
    exact ⟨none, 0, rfl, by simp [HitsIn], hS.noHits⟩
end Go.Proofs.YtnbhhdncbajkgaaGreatDoor
/- The rules of the walk inside a fence (the rounds of a range over a function). -/
namespace Go.Proofs.YtnbhhdncbajkgaaGreatDoor
set_option linter.unusedVariables false
set_option linter.unusedSimpArgs false
open Go.RowKit
variable {F : Fence} {fu : Nat} {ops : Array Oper} {P : Program} {X : List Nat} {w0 w : World} {m0 m : Mem} {es : List Ent} {o : Oper} {a : Act} {K : Act → World → Prop} {Q : Exit → Act → World → Prop}
variable {rest : List Oper} {dst : Option Tmp} {rt : TypeId} {pos : String} {af : Array Edge} {E : Prop} {g : Nat × Bool}
/-- What comes of an operation that enters nothing. -/
def Plain (r : Result Next) : Prop := match r with | .ok (.value _) _ => True | .ok .skip _ => True | .ok _ _ => False | .halt _ _ => True
theorem upon_plain {r : Result Next} (hr : Plain r) (h : o.upon P a K (fun _ _ _ => False) r) : o.uponIn F fu P a K Q r := by
  cases r with
  | ok v w' => cases v <;> first | exact h | exact hr.elim
  | halt e w' => cases e <;> exact False.elim h
theorem plain_value (s : Sem Value) (w : World) : Plain ((do pure (.value (← s)) : Sem Next).run P w) := by
  rw [Sem.run_bind]
  cases s.run P w with
  | ok v w' => exact trivial
  | halt e w' => exact trivial
theorem plain_unit (s : Sem Unit) (w : World) : Plain ((do s; pure .skip : Sem Next).run P w) := by
  rw [Sem.run_bind]
  cases s.run P w with
  | ok v w' => exact trivial
  | halt e w' => exact trivial
/-- Such an operation. -/
inductive Calm : Op → Prop
  | load {t : TypeId} {x : Operand} : Calm (.load t x)
  | store {t : TypeId} {x y : Operand} : Calm (.store t x y)
  | box {t : TypeId} {x : Operand} : Calm (.box t x)
  | alloc {t : TypeId} : Calm (.alloc t)
  | lit {t : TypeId} {n : Nat} {l : Array (Nat × Operand)} : Calm (.buildSlice t n l)
  | make {t : TypeId} {x y : Operand} : Calm (.makeSlice t x y)
  | append {c : Array Operand} {ts : Array TypeId} : Calm (.call { callee := .builtin .append, args := c, argTypes := ts })
  | copy {c : Array Operand} {ts : Array TypeId} : Calm (.call { callee := .builtin .copy, args := c, argTypes := ts })
theorem Calm.plain (h : Calm o.op) : Plain ((execOp a.eval o).run P w) ∧ o.about P w a.eval = none ∧ ∀ c, o.op ≠ .defer c := by
  obtain ⟨d, op, rt, ps, af, gd⟩ := o
  simp only at h
  cases h with
  | load => exact ⟨plain_value _ _, rfl, fun c e => Op.noConfusion e⟩
  | store => exact ⟨plain_unit _ _, rfl, fun c e => Op.noConfusion e⟩
  | box => exact ⟨plain_value _ _, rfl, fun c e => Op.noConfusion e⟩
  | alloc => exact ⟨plain_value _ _, rfl, fun c e => Op.noConfusion e⟩
  | lit => exact ⟨plain_value _ _, rfl, fun c e => Op.noConfusion e⟩
  | make => exact ⟨plain_value _ _, rfl, fun c e => Op.noConfusion e⟩
  | append => exact ⟨plain_value _ _, rfl, fun c e => Op.noConfusion e⟩
  | copy => exact ⟨plain_value _ _, rfl, fun c e => Op.noConfusion e⟩
theorem wpIn_calm (hc : Calm o.op) (h : o.wp P a w K (fun _ _ _ => False)) : o.wpIn F fu P a w K Q := by
  obtain ⟨h1, h2, h3⟩ := hc.plain (P := P) (w := w) (a := a)
  refine ⟨fun f hf => (by rw [h2] at hf; cases hf), ?_⟩
  rw [Oper.semAt_eq _ _ _ h3]
  exact upon_plain h1 h
theorem li_plain (hc : Calm o.op) (hg : o.guard = none) (h : ∀ K : Act → World → Prop, (∀ a w, wpListIn F fu P ops Q rest a w → K a w) → o.wp P a w K (fun _ _ _ => False)) : wpListIn F fu P ops Q (o :: rest) a w :=
  wpListIn_plain hg fun K hK => wpIn_calm hc (h K hK)
inductive Li (F : Fence) (fu : Nat) (P : Program) (ops : Array Oper) (Q : Exit → Act → World → Prop) (l : List Oper) (a : Act) (w : World) : Prop
  | mk : wpListIn F fu P ops Q l a w → Li F fu P ops Q l a w
theorem Li.out {l : List Oper} (h : Li F fu P ops Q l a w) : wpListIn F fu P ops Q l a w := by cases h; assumption
theorem li_box {ty : TypeId} {y : Operand} (hS : St X w0 m0 w es m) {cs : List Value} {v : Value} (hy : a.eval y = v) (hc : v.cells = cs.toArray) (h : ∀ w' b, St X w0 m0 w' (.box b cs :: es) m → wpListIn F fu P ops Q rest (a.put dst (.pointer (some ⟨b, 0, none⟩))) w') : Li F fu P ops Q (⟨dst, .box ty y, rt, pos, af, none⟩ :: rest) a w := ⟨(
  li_plain .box rfl fun K hK => op_box hS ty y rfl cs (by rw [hy]; exact hc) fun w' b hw => hK _ _ (h w' b hw))⟩
theorem li_alloc {ty : TypeId} (hS : St X w0 m0 w es m) (z : Value) (cs : List Value) (hz : (P.info? ty).bind (·.zero) = some z) (hc : z.cells = cs.toArray) (h : ∀ w' b, St X w0 m0 w' (.box b cs :: es) m → wpListIn F fu P ops Q rest (a.put dst (.pointer (some ⟨b, 0, none⟩))) w') : Li F fu P ops Q (⟨dst, .alloc ty, rt, pos, af, none⟩ :: rest) a w := ⟨(
  li_plain .alloc rfl fun K hK => op_alloc hS ty rfl z hz cs hc fun w' b hw => hK _ _ (h w' b hw))⟩
theorem li_load {ty : TypeId} {x : Operand} (hS : St X w0 m0 w es m) {d : TypeDesc} (hu : P.underlying ty = some d) (hd : d.isRow = false) {b off : Nat} (hx : a.eval x = .pointer (some ⟨b, off, none⟩)) {v : Value} (hv : Find es m b off v)
    (h : wpListIn F fu P ops Q rest (a.put dst v) w) : Li F fu P ops Q (⟨dst, .load ty x, rt, pos, af, none⟩ :: rest) a w := ⟨( li_plain .load rfl fun K hK => a_load hS ty x rfl hu hd hx hv (hK _ _ h))⟩
theorem li_loads {ty : TypeId} {x : Operand} (hS : St X w0 m0 w es m) {n : Nat} (hn : ∃ d, P.underlying ty = some d ∧ d.isRow = true ∧ (P.info? ty).map (·.size) = some n) {b off : Nat} (hx : a.eval x = .pointer (some ⟨b, off, none⟩)) {vs : List Value} (hv : Finds es m b off n vs)
    (h : wpListIn F fu P ops Q rest (a.put dst (.agg vs.toArray)) w) : Li F fu P ops Q (⟨dst, .load ty x, rt, pos, af, none⟩ :: rest) a w := ⟨( by
  obtain ⟨d, hu, hd, hn⟩ := hn
  exact li_plain .load rfl fun K hK => a_loads hS ty x rfl hu hd n hn hx hv (hK _ _ h))⟩
theorem li_store {ty : TypeId} {x y : Operand} (hS : St X w0 m0 w es m) (hn : ∃ d, P.underlying ty = some d ∧ d.isRow = false ∧ (P.info? ty).map (·.size) = some 1) {b off : Nat} (hx : a.eval x = .pointer (some ⟨b, off, none⟩)) {v : Value} (hy : a.eval y = v) (h1 : v.oneCell' = true) {cs cs' : List Value} {es' : List Ent}
    (hM : Ent.box b cs ∈ es) (hs : SetsL cs off [v] cs') (hU : UpdB es b cs cs' es') (h : ∀ w', St X w0 m0 w' es' m → wpListIn F fu P ops Q rest (a.put dst undef) w') : Li F fu P ops Q (⟨dst, .store ty x y, rt, pos, af, none⟩ :: rest) a w := ⟨( by
  obtain ⟨d, hu, hd, hn⟩ := hn
  exact li_plain .store rfl fun K hK => a_store hS ty x y rfl hn hx hy h1 hU hs fun w' hw => hK _ _ (h w' hw))⟩
theorem li_stores {ty : TypeId} {x y : Operand} (hS : St X w0 m0 w es m) {n : Nat} (hn : ∃ d, P.underlying ty = some d ∧ d.isRow = true ∧ (P.info? ty).map (·.size) = some n) {b off : Nat} (hx : a.eval x = .pointer (some ⟨b, off, none⟩)) {vs : List Value} (hy : a.eval y = .agg vs.toArray) (hl : vs.length = n) (h1 : ∀ v ∈ vs, v.oneCell' = true) {cs cs' : List Value} {es' : List Ent}
    (hM : Ent.box b cs ∈ es) (hs : SetsL cs off vs cs') (hU : UpdB es b cs cs' es') (h : ∀ w', St X w0 m0 w' es' m → wpListIn F fu P ops Q rest (a.put dst undef) w') : Li F fu P ops Q (⟨dst, .store ty x y, rt, pos, af, none⟩ :: rest) a w := ⟨( by
  obtain ⟨d, hu, hd, hn⟩ := hn
  exact li_plain .store rfl fun K hK => a_stores hS ty x y rfl n hn hx hy hl h1 hU hs fun w' hw => hK _ _ (h w' hw))⟩
theorem li_append {α : Type} (L : Lay α) {t e : TypeId} {z : Value} (hE : Elem P t e L.n L.bytes z) {s x : Operand} (hS : St X w0 m0 w es m) (hb : 0 < L.bytes) {v xv : Value} {n : Nat} {xs : List Value} {ys : List α} {f : Value → Nat → List Value → List Ent}
    (hs : a.eval s = v) (hi : RowAt es e L.n v n xs f) (hx : a.eval x = xv) (hr : L.list.rd m [xv] ys) (hbytes : (n + ys.length) * L.bytes ≤ 140737488355328)
    (h : ∀ w' q c news, CellsOf L m news ys → St X w0 m0 w' (f (.slice q (n + ys.length) c) (n + ys.length) (xs ++ news)) m → wpListIn F fu P ops Q rest (a.put dst (.slice q (n + ys.length) c)) w') : Li F fu P ops Q (⟨dst, .call { callee := .builtin .append, args := #[s, x], argTypes := #[t, t] }, rt, pos, af, none⟩ :: rest) a w := ⟨(
  li_plain .append rfl fun K hK => op_appendL hS hE s x rfl hs hi hx hr hbytes hb fun w' q c news hc hw => hK _ _ (h w' q c news hc hw))⟩
theorem li_append_nil {α : Type} (L : Lay α) {t e : TypeId} {z : Value} (hE : Elem P t e L.n L.bytes z) {s x : Operand} (hS : St X w0 m0 w es m) (hb : 0 < L.bytes) {xv : Value} {ys : List α}
    (hs : a.eval s = .slice none 0 0) (hx : a.eval x = xv) (hr : L.list.rd m [xv] ys)
    (h : ∀ w' q c news, CellsOf L m news ys → St X w0 m0 w' (.row e L.n (.slice q ys.length c) ys.length news :: es) m → wpListIn F fu P ops Q rest (a.put dst (.slice q ys.length c)) w') : Li F fu P ops Q (⟨dst, .call { callee := .builtin .append, args := #[s, x], argTypes := #[t, t] }, rt, pos, af, none⟩ :: rest) a w := ⟨(
  li_plain .append rfl fun K hK => op_appendL_nil hS hE s x rfl hs hx hr hb fun w' q c news hc hw => hK _ _ (h w' q c news hc hw))⟩
theorem li_appendB {t e : TypeId} {size bytes : Nat} {z : Value} (hE : Elem P t e size bytes z) {s x : Operand} (hS : St X w0 m0 w es m) (hb : 0 < bytes) {v : Value} {n : Nat} {xs : List Value} {b k c : Nat} {cs : List Value} {f : Value → Nat → List Value → List Ent} (hs : a.eval s = v) (hi : RowAt es e size v n xs f)
    (hx : a.eval x = .slice (some ⟨b, 0, none⟩) k c) (hM : Ent.box b cs ∈ es) (hl : cs.length = k * size) (h1 : ∀ u ∈ cs, u.oneCell' = true) (hbytes : (n + k) * bytes ≤ 140737488355328)
    (h : ∀ w' q c, St X w0 m0 w' (f (.slice q (n + k) c) (n + k) (xs ++ cs)) m → wpListIn F fu P ops Q rest (a.put dst (.slice q (n + k) c)) w') : Li F fu P ops Q (⟨dst, .call { callee := .builtin .append, args := #[s, x], argTypes := #[t, t] }, rt, pos, af, none⟩ :: rest) a w := ⟨(
  li_plain .append rfl fun K hK => op_appendB hS hE s x rfl hs hi hx hM hl h1 hbytes hb fun w' q c hw => hK _ _ (h w' q c hw))⟩
theorem li_lit {t e : TypeId} {size bytes : Nat} {z : Value} (hE : Elem P t e size bytes z) {len : Nat} {parts : Array (Nat × Operand)} (hS : St X w0 m0 w es m) {cs : List Value} (hlen : len * size ≤ 16777216) (hpos : len * size ≠ 0)
    (hf : Instr.fill (fun i => some (i * size, size)) ((Array.range (len * size)).map (z.cells[· % z.cells.size]!)) (parts.map fun (i, x) => (i, a.eval x)).toList = some cs.toArray)
    (h : ∀ w' b, St X w0 m0 w' (.box b cs :: es) m → wpListIn F fu P ops Q rest (a.put dst (.slice (some ⟨b, 0, none⟩) len len)) w') : Li F fu P ops Q (⟨dst, .buildSlice t len parts, rt, pos, af, none⟩ :: rest) a w := ⟨(
  li_plain .lit rfl fun K hK => op_lit hS hE len parts rfl hlen hpos cs hf fun w' b hw => hK _ _ (h w' b hw))⟩
theorem li_copyR {d s : Operand} {dT sT elem t : TypeId} (hS : St X w0 m0 w es m) (hu : P.underlying dT = some (.slice elem)) (hsz : (P.info? elem).map (·.size) = some 1)
    {k : IntKind} {dry xs : List Int} {g cd off n dLen dCap : Nat} {sv : Value} {f : Value → Nat → List Value → List Ent} (hd : a.eval d = .slice (some ⟨g, off, none⟩) dLen dCap) (hi : RowAt es t 1 (.slice (some ⟨g, 0, none⟩) n cd) n (dry.map (.int k)) f) (hn : dry.length = n)
    (hs : a.eval s = sv) (hr : (Lay.int k).list.rd m [sv] xs) (hx : xs.length ≤ dLen) (hfit : off + dLen ≤ n)
    (h : ∀ w', St X w0 m0 w' (f (.slice (some ⟨g, 0, none⟩) n cd) n ((splice dry off xs).map (.int k))) m → wpListIn F fu P ops Q rest (a.put dst (.int .i64 xs.length)) w') : Li F fu P ops Q (⟨dst, .call { callee := .builtin .copy, args := #[d, s], argTypes := #[dT, sT] }, rt, pos, af, none⟩ :: rest) a w := ⟨(
  li_plain .copy rfl fun K hK => op_copyR hS d s dT sT rfl hu hsz hd hi hn hs hr hx hfit fun w' hw => hK _ _ (h w' hw))⟩
theorem li_storeR {ty : TypeId} {x y : Operand} (hS : St X w0 m0 w es m) (hn : ∃ d, P.underlying ty = some d ∧ d.isRow = false ∧ (P.info? ty).map (·.size) = some 1) {g off : Nat} (hx : a.eval x = .pointer (some ⟨g, off, none⟩)) {v : Value} (hy : a.eval y = v) (h1 : v.oneCell' = true)
    {e : TypeId} {size n c : Nat} {xs : List Value} {f : Value → Nat → List Value → List Ent} (hi : RowAt es e size (.slice (some ⟨g, 0, none⟩) n c) n xs f) (hl : off < xs.length)
    (h : ∀ w', St X w0 m0 w' (f (.slice (some ⟨g, 0, none⟩) n c) n (xs.set off v)) m → wpListIn F fu P ops Q rest (a.put dst undef) w') : Li F fu P ops Q (⟨dst, .store ty x y, rt, pos, af, none⟩ :: rest) a w := ⟨(
  li_plain .store rfl fun K hK => op_storeR hS ty x y rfl hn hx hy h1 hi hl fun w' hw => hK _ _ (h w' hw))⟩
theorem li_make {t e : TypeId} {size bytes : Nat} {z : Value} (hE : Elem P t e size bytes z) {l c : Operand} (n : Nat) (hS : St X w0 m0 w es m) {kl kc : IntKind} {xl xc : Int} (hl : a.eval l = .int kl xl) (hc : a.eval c = .int kc xc) (hl2 : xl = n) (hc2 : xc = n) (hbytes : bytes * n ≤ 281474976710656) (h24 : n * size ≤ 16777216) (h63 : n ≤ maxLen)
    (h : ∀ w' b, St X w0 m0 w' (.row e size (.slice (some ⟨b, 0, none⟩) n n) n (madeCells z.cells (n * size)).toList :: es) m → wpListIn F fu P ops Q rest (a.put dst (.slice (some ⟨b, 0, none⟩) n n)) w') : Li F fu P ops Q (⟨dst, .makeSlice t l c, rt, pos, af, none⟩ :: rest) a w := ⟨(
  li_plain .make rfl fun K hK => op_make hS hE l c rfl n hl hc hl2 hc2 hbytes h24 h63 fun w' b hw => hK _ _ (h w' b hw))⟩
theorem li_lit0 {t e : TypeId} {size bytes : Nat} {z : Value} (hE : Elem P t e size bytes z) (hS : St X w0 m0 w es m)
    (h : ∀ w' b, St X w0 m0 w' (.row e size (.slice (some ⟨b, 0, none⟩) 0 0) 0 [] :: es) m → wpListIn F fu P ops Q rest (a.put dst (.slice (some ⟨b, 0, none⟩) 0 0)) w') : Li F fu P ops Q (⟨dst, .buildSlice t 0 #[], rt, pos, af, none⟩ :: rest) a w := ⟨(
  li_plain .lit rfl fun K hK => op_lit0 hS hE rfl fun w' b hw => hK _ _ (h w' b hw))⟩
theorem ki_box {ty : TypeId} {y : Operand} (hS : St X w0 m0 w es m) {cs : List Value} (hs : BoxS a y cs) (h : ∀ w' b, St X w0 m0 w' (.box b cs :: es) m → wpListIn F fu Tryz.prog ops Q rest (a.put dst (.pointer (some ⟨b, 0, none⟩))) w') :
    Li F fu Tryz.prog ops Q (⟨dst, .box ty y, rt, pos, af, none⟩ :: rest) a w := by
  obtain ⟨hy, hc⟩ := hs; exact li_box hS hy hc h
theorem ki_alloc {ty : TypeId} (hS : St X w0 m0 w es m) {cs : List Value} (hs : AllocS ty cs) (h : ∀ w' b, St X w0 m0 w' (.box b cs :: es) m → wpListIn F fu Tryz.prog ops Q rest (a.put dst (.pointer (some ⟨b, 0, none⟩))) w') :
    Li F fu Tryz.prog ops Q (⟨dst, .alloc ty, rt, pos, af, none⟩ :: rest) a w := by
  obtain ⟨hz⟩ := hs; exact li_alloc hS _ cs hz.1 hz.2 h
theorem ki_load {ty : TypeId} {x : Operand} (hS : St X w0 m0 w es m) {v : Value} (hs : LoadS es m a ty x v) (h : wpListIn F fu Tryz.prog ops Q rest (a.put dst v) w) : Li F fu Tryz.prog ops Q (⟨dst, .load ty x, rt, pos, af, none⟩ :: rest) a w := by
  obtain ⟨⟨d, hu, hd, _⟩, hx, hv⟩ := hs; exact li_load hS hu hd hx hv h
theorem ki_loads {ty : TypeId} {x : Operand} (hS : St X w0 m0 w es m) {vs : List Value} (hs : LoadsS es m a ty x vs) (h : wpListIn F fu Tryz.prog ops Q rest (a.put dst (.agg vs.toArray)) w) : Li F fu Tryz.prog ops Q (⟨dst, .load ty x, rt, pos, af, none⟩ :: rest) a w := by
  obtain ⟨hn, hx, hv⟩ := hs; exact li_loads hS hn hx hv h
theorem ki_store {ty : TypeId} {x y : Operand} (hS : St X w0 m0 w es m) {es' : List Ent} (hs : StoreS es a ty x y es') (h : ∀ w', St X w0 m0 w' es' m → wpListIn F fu Tryz.prog ops Q rest (a.put dst undef) w') :
    Li F fu Tryz.prog ops Q (⟨dst, .store ty x y, rt, pos, af, none⟩ :: rest) a w := by
  obtain ⟨hn, hx, hy, h1, hM, hs, hU⟩ := hs; exact li_store hS hn hx hy h1 hM hs hU h
theorem ki_storeR {ty : TypeId} {x y : Operand} (hS : St X w0 m0 w es m) {es' : List Ent} (hs : StoreRS es a ty x y es') (h : ∀ w', St X w0 m0 w' es' m → wpListIn F fu Tryz.prog ops Q rest (a.put dst undef) w') :
    Li F fu Tryz.prog ops Q (⟨dst, .store ty x y, rt, pos, af, none⟩ :: rest) a w := by
  obtain ⟨hn, hx, hy, h1, hi, hl, he⟩ := hs; subst he; exact li_storeR hS hn hx hy h1 hi hl h
theorem ki_stores {ty : TypeId} {x y : Operand} (hS : St X w0 m0 w es m) {es' : List Ent} (hs : StoresS es a ty x y es') (h : ∀ w', St X w0 m0 w' es' m → wpListIn F fu Tryz.prog ops Q rest (a.put dst undef) w') :
    Li F fu Tryz.prog ops Q (⟨dst, .store ty x y, rt, pos, af, none⟩ :: rest) a w := by
  obtain ⟨hn, hx, hy, hl, h1, hM, hs, hU⟩ := hs; exact li_stores hS hn hx hy hl h1 hM hs hU h
end Go.Proofs.YtnbhhdncbajkgaaGreatDoor
/- slices.Values and AppendSeq at hits. -/
namespace Go.Proofs.YtnbhhdncbajkgaaGreatDoor
set_option linter.unusedVariables false
set_option linter.unusedSimpArgs false
open Go.RowKit Go.Shelf
attribute [local go_sem] Oper.semAt_some
theorem Below.inMem {n : Nat} {w W : World} {m : Mem} (h : Below w.heap.size w W) (hm : m.In w) : m.In W := fun a v hv => cell_below h (hm a v hv)
set_option maxRecDepth 100000 in
set_option maxHeartbeats 4000000 in
theorem values1_in (F : Fence) (n : Nat) (h61 : F.fn 109) (hro : F.round = none) (hn : 1 ≤ n) (l : Nat) (m : Mem) (w : World) (hm : m.In w) (Bs : Nat) (q : Option Addr) (c : Nat) (xs : List Hit) (hr : hitL.list.rd m [.slice q xs.length c] xs) (hb : m ⟨Bs, 0, none⟩ = some (.slice q xs.length c))
    (J Jx : List Hit → World → Prop) (W : World) (hW : Below w.heap.size w W) (hJ : AbidesFrom W.heap.size J) (hJx : AbidesFrom W.heap.size Jx)
    (hY : ∀ pre x W1, J pre W1 → pre.length < xs.length → YieldAt F (n - 1) Tryz.prog l #[hitA x] W1 fun e W' => (e = .returned (.bool true) ∧ J (pre ++ [x]) W' ∧ Below w.heap.size W1 W') ∨ (e = .returned (.bool false) ∧ Jx (pre ++ [x]) W')) (h0 : J [] W) :
    CallsIn F n Tryz.prog 109 #[.func (.yield l) #[] #[], .pointer (some ⟨Bs, 0, none⟩)] W fun e W' => (∃ v, e = .returned v) ∧ ((∃ ys, ys = xs ∧ J ys W') ∨ (∃ pre, pre <+: xs ∧ Jx pre W')) := by
  obtain ⟨q', c', e, h1, h2, h3, hrow⟩ := Lay.list_open hr
  cases e
  have hl : xs.length ≤ 9223372036854775807 := by simp only [maxLen] at h2; omega
  have HR := Lib.hid hrow
  have HB := Lib.hid hb
  have hmW := Below.inMem (n := n) hW hm
  have hS := St.start hmW
  have HY := Lib.hid hY
  have HJ := Lib.hid hJ
  clear hr h1 h2 h3 hrow hY hJ hJx
  refine callsIn_of_wp Tryz.func109 rfl h61 ?_ hro
  simp only [Tryz.ntmps109, List.size_toArray, List.length_cons, List.length_nil, Nat.reduceAdd, Nat.reduceSub, Array.replicate_succ, Array.replicate_zero, List.push_toArray, List.append_toArray, List.nil_append, List.cons_append]
  gi_wp2_with (first 
    | ((with_reducible refine' Li.out ?_; apply ki_alloc hS); (· exact .mk); clear hS; intro _ _ hS)
    | ((with_reducible refine' Li.out ?_; apply ki_load hS); (· exact .mk))
    | ((with_reducible refine' Li.out ?_; apply ki_loads hS); (· exact .mk))
    | ((with_reducible refine' Li.out ?_; apply ki_stores hS); (· exact .mk); clear hS; intro ws hS))
  clear hS hb
  gi_loopw [7] (fun i wr => ∃ k : Nat, k ≤ xs.length ∧ i = .int .i64 k ∧ J (xs.take k) wr ∧ Below w.heap.size W wr) (fun i _ => xs.length - (intOf i).toNat)
  case atStart => exact ⟨0, Nat.zero_le _, rfl, by simpa using h0, Below.refl _ _⟩
  case round =>
    obtain ⟨k, hk, rfl, hJs, hnx⟩ := hrel
    by_cases hlt : k < xs.length
    · have hk1 : (k : Int) < xs.length := by omega
      obtain ⟨b, o, cs, rfl, hcs, hcell⟩ := HR.out.get k hlt
      obtain ⟨rfl, i1, i2⟩ := hitL_open hcs
      have hcx : ∀ j v, [Value.int .i64 xs[k].dist, .int .i64 xs[k].id][j]? = some v → m ⟨b, o + k * 2 + j, none⟩ = some v := hcell
      have hS := St.start (Below.inMem (n := n) (hW.trans hnx) hm)
      have hN : Hid (xs.take (k + 1) = xs.take k ++ [xs[k]]) := List.take_succ_eq_append_getElem hlt
      clear hcs hcell
      generalize xs[k] = x at *
      gi_wp2_with (first 
    | ((with_reducible refine' Li.out ?_; apply ki_alloc hS); (· exact .mk); clear hS; intro _ _ hS)
    | ((with_reducible refine' Li.out ?_; apply ki_load hS); (· exact .mk))
    | ((with_reducible refine' Li.out ?_; apply ki_loads hS); (· exact .mk))
    | ((with_reducible refine' Li.out ?_; apply ki_stores hS); (· exact .mk); clear hS; intro ws hS))
      have hJ2 := HJ.out _ wr ws none hJs (grownBy_of_below hS.below) (fun r e => by cases e)
      obtain ⟨fn, tmps, assign, body, hy, hR⟩ := HY.out _ x ws hJ2 (by simp; omega)
      have hnx2 := (hnx.trans (hS.below.mono (Nat.le_trans hW.size hnx.size)))
      clear hS hJ2
      have hy' : (Instr.yield l #[Value.agg #[Value.int .i64 x.dist, Value.int .i64 x.id]]).run Tryz.prog ws = .ok (.round l fn tmps assign body) ws := hy
      rw [hy', Oper.uponIn_round]
      refine ⟨fun _ => hn, hR.mono ?_⟩
      rintro e W3 (⟨rfl, hJ3, hk3⟩ | ⟨rfl, hJx3⟩)
      · gi_wp2
        go_roundw
        case rel => exact ⟨k + 1, hlt, by go_num, by rw [hN.out]; exact hJ3, hnx2.trans hk3⟩
        case measure => simp [intOf]; omega
      · gi_wp2
        refine bodyPost_ret (results_none rfl _ _ _) rfl ?_
        exact ⟨⟨_, rfl⟩, .inr ⟨_, by rw [← hN.out]; exact List.take_prefix _ _, hJx3⟩⟩
    · obtain rfl : k = xs.length := by omega
      gi_wp2
      go_end0
      exact ⟨⟨_, rfl⟩, .inl ⟨_, by simp, hJs⟩⟩
theorem values_stops (F : Fence) (n : Nat) (h61 : F.fn 109) (hro : F.round = none) (hn : 1 ≤ n) (m : Mem) (w : World) (hm : m.In w) (Bs : Nat) (q : Option Addr) (c : Nat) (xs : List Hit) (hr : hitL.list.rd m [.slice q xs.length c] xs) (hb : m ⟨Bs, 0, none⟩ = some (.slice q xs.length c)) :
    SeqStopsK F n Tryz.prog 109 #[.pointer (some ⟨Bs, 0, none⟩)] (fun x : Hit => #[.agg #[.int .i64 x.dist, .int .i64 x.id]]) (Below w.heap.size) (fun ys => ys = xs) (fun pre => pre <+: xs) xs.length w := by
  intro l J Jx W hW hJ hJx hY h0
  have e : #[Value.func (.yield l) #[] #[]] ++ #[Value.pointer (some ⟨Bs, 0, none⟩)] = #[.func (.yield l) #[] #[], .pointer (some ⟨Bs, 0, none⟩)] := by simp
  rw [e]
  exact values1_in F n h61 hro hn l m w hm Bs q c xs hr hb J Jx W hW hJ hJx hY h0
end Go.Proofs.YtnbhhdncbajkgaaGreatDoor
/- The state of a walk beside a range over a function. -/
namespace Go.Proofs.YtnbhhdncbajkgaaGreatDoor
set_option linter.unusedVariables false
set_option linter.unusedSimpArgs false
open Go.RowKit
section
variable {X : List Nat} {w0 w w' : World} {m0 m : Mem} {es : List Ent}
def Ent.cellsy : Ent → Bool
  | .obj _ _ => false
  | _ => true
theorem Ent.ok.cells {x : Ent} (h : x.ok w) (hc : x.cellsy = true) : ∀ b, x.blk = some b → ∃ cur t fz, w.heap[b]? = some (.cells cur t fz) := by
  intro b hb
  cases x with
  | box b' cs => obtain ⟨t, ht⟩ := h; cases hb; exact ⟨_, _, _, ht⟩
  | row e size v n xs =>
    rcases h.2 with ⟨rfl, _⟩ | ⟨g, cap, cur, rfl, _, hg, _⟩
    · simp [Ent.blk, Value.ownBlock] at hb
    · simp [Ent.blk, Value.ownBlock] at hb; subst hb; exact ⟨_, _, _, hg⟩
  | obj b' p => cases hc
theorem cell_cells {a : Addr} {v : Value} (h : w.cell? a = some v) : ∃ cur t fz, w.heap[a.block]? = some (.cells cur t fz) := by
  unfold World.cell? at h
  split at h
  · rename_i hh; exact ⟨_, _, _, hh⟩
  · cases h
/-- What a loop over an iterator lays, and turns, of its own leaves it. -/
theorem St.abide {row : Option Nat} (hS : St [] w0 m0 w es m) (hes : es.all Ent.cellsy = true) (hg : w.grownBy w' row) (hr : ∀ r, row = some r → w0.heap.size ≤ r ∧ ∃ o : Obj, w.heap[r]? = some o ∧ o.isCells = false) : St [] w0 m0 w' es m := by
  have hne : ∀ b cur t fz, w.heap[b]? = some (.cells cur t fz) → some b ≠ row := fun b cur t fz h e => by
    obtain ⟨_, o, h1, h2⟩ := hr b e.symm
    rw [h] at h1
    cases h1
    cases h2
  refine ⟨hS.kept.grown hg fun b hb => .inl (hr b hb).1, fun x hx => ⟨?_, (hS.has x hx).2⟩, hS.apart, fun a v hv => ?_, hS.le, hS.new⟩
  · refine Ent.ok.same (hS.has x hx).1 fun b hb => ?_
    obtain ⟨cur, t, fz, hc⟩ := (hS.has x hx).1.cells (List.all_eq_true.1 hes x hx) b hb
    exact hg.block b ((hS.has x hx).1.lt b hb) (hne b cur t fz hc)
  · obtain ⟨h1, h2⟩ := hS.know a v hv
    obtain ⟨cur, t, fz, hc⟩ := cell_cells h1
    exact ⟨(World.cell?_of_block (hg.block _ (World.block_lt_of_cell? w a h1) (hne _ cur t fz hc))).trans h1, h2⟩
theorem Kept.from (h : Kept X w w') (hX : ∀ b ∈ X, ∃ cur t fz, w.heap[b]? = some (.cells cur t fz)) (B : Nat) : KeepsFrom B w w' :=
  ⟨h.size, fun k o _ hk ho => (h.block k (Array.getElem?_eq_some_iff.1 hk).1 fun hm => by
    obtain ⟨cur, t, fz, hc⟩ := hX k hm
    rw [hc] at hk
    cases hk
    cases ho).trans hk⟩
theorem Kept.belowOf {n : Nat} (h : Kept X w w') (hX : ∀ b ∈ X, n ≤ b) (hn : n ≤ w.heap.size) : Below n w w' :=
  ⟨h.os, h.tape, h.output, h.size, fun k hk => h.block k (Nat.lt_of_lt_of_le hk hn) fun hm => by have := hX k hm; omega⟩
theorem St.lentCells (hS : St X w0 m0 w es m) (hes : es.all Ent.cellsy = true) : ∀ b ∈ es.filterMap Ent.blk, ∃ cur t fz, w.heap[b]? = some (.cells cur t fz) := fun b hb => by
  obtain ⟨x, hx, e⟩ : ∃ x ∈ es, x.blk = some b := by simpa using hb
  exact (hS.has x hx).1.cells (List.all_eq_true.1 hes x hx) b e
theorem BoxIn.eq {b : Nat} {cs ds : List Value} (h : BoxIn w b cs) (k : BoxIn w b ds) : cs = ds := by
  obtain ⟨t, h⟩ := h
  obtain ⟨u, k⟩ := k
  rw [h] at k
  simpa using congrArg (fun o : Option Obj => match o with | some (.cells c _ _) => c.toList | _ => []) k
theorem ownsRow_eq {B n size : Nat} {e : TypeId} {v : Value} {xs ys : List Value} (h : w.ownsRow B e size v n xs) (k : w.ownsRow B e size v n ys) : xs = ys := by
  rcases h.2 with ⟨e1, h0⟩ | ⟨g, cap, cur, e1, _, hg, _, _, _, ht⟩
  · have h1 := h.1; have k1 := k.1
    subst h0
    simp at h1 k1
    rw [h1, k1]
  · rcases k.2 with ⟨e2, _⟩ | ⟨g', cap', cur', e2, _, hg', _, _, _, ht'⟩
    · rw [e1] at e2; cases e2
    · rw [e1] at e2
      cases e2
      rw [hg] at hg'
      cases hg'
      rw [← ht, ht']
end
end Go.Proofs.YtnbhhdncbajkgaaGreatDoor
/- slices.AppendSeq, Collect over slices.Values at hits. -/
namespace Go.Proofs.YtnbhhdncbajkgaaGreatDoor
set_option linter.unusedVariables false
set_option linter.unusedSimpArgs false
open Go.RowKit Go.Shelf
attribute [local go_sem] Oper.semAt_some
abbrev seqH (b : Nat) : Value := .func (.func 109) #[] #[.pointer (some ⟨b, 0, none⟩)]
set_option maxRecDepth 100000 in
set_option maxHeartbeats 4000000 in
theorem appendSeq_c (m : Mem) (w : World) (hm : m.In w) (Bs : Nat) (q : Option Addr) (c : Nat) (xs : List Hit) (hr : hitL.list.rd m [.slice q xs.length c] xs) (hb : m ⟨Bs, 0, none⟩ = some (.slice q xs.length c)) :
    Calls Tryz.prog 123 #[.slice none 0 0, seqH Bs] w fun e w' => ∃ q' c', e = .returned (.slice q' xs.length c') ∧ St [] w m w' [rowQ q' c' xs.length (cellsH xs)] m := by
  have hbytes : xs.length * 16 ≤ 140737488355328 := by obtain ⟨_, _, _, _, _, h3, _⟩ := Lay.list_open hr; exact h3
  refine (callsIn_wide (n := 3)).1 ?_
  refine callsIn_of_wp_marks Tryz.func123 rfl trivial ?_ rfl
  simp only [Tryz.ntmps123, List.size_toArray, List.length_cons, List.length_nil, Nat.reduceAdd, Nat.reduceSub, Array.replicate_succ, Array.replicate_zero, List.push_toArray, List.append_toArray, List.nil_append, List.cons_append]
  have hS := St.start hm
  have HSEQ := Lib.hid (values_stops Fence.wide 2 trivial rfl (by decide) m w hm Bs q c xs hr hb)
  clear hr hb
  gi_wp2_with (first 
    | ((with_reducible refine' Li.out ?_; apply ki_box (ty := 34) (y := (.tmp 0)) hS); (· exact .mk); clear hS; intro w2 b2 hS)
    | ((with_reducible refine' Li.out ?_; apply ki_alloc hS); (· exact .mk); clear hS; intro _ _ hS)
    | ((with_reducible refine' Li.out ?_; apply ki_load hS); (· exact .mk))
    | ((with_reducible refine' Li.out ?_; apply ki_loads hS); (· exact .mk))
    | ((with_reducible refine' Li.out ?_; apply ki_store hS); (· exact .mk); clear hS; intro ws hS)
    | ((with_reducible refine' Li.out ?_; apply ki_stores hS); (· exact .mk); clear hS; intro ws hS))
  refine wpIn_rangeFunc_ownH (n := 3) rfl (by decide) rfl trivial (enters_of Tryz.func109 (by kernel_rfl) rfl) HSEQ.out belowK_t (belowK_b hS.kept.size) hS.below (fun _ => rfl)
    (fun pre W => ∃ q' c', St [] w m W [.box b2 [.slice q' pre.length c'], rowQ q' c' pre.length (cellsH pre)] m)
    (fun _ _ _ => False) ?hI ?hIx ⟨none, 0, (hS.nilRow _ _).front (x := .box b2 _) (by (repeat constructor))⟩
    (fun x a' W => ∃ Bx q' c' pre', St [] w m W [.box Bx [.int .i64 x.dist, .int .i64 x.id], .box b2 [.slice q' (List.length pre') c'], rowQ q' c' (List.length pre') (cellsH pre')] m ∧
      a' = { tmps := #[.slice none 0 0, seqH Bs, .pointer (some ⟨b2, 0, none⟩), undef, .slice none 0 0, .pointer (some ⟨Bx, 0, none⟩), seqH Bs, .agg #[.int .i64 x.dist, .int .i64 x.id], undef, undef, undef, undef, undef], defers := [] }) ?hAx ?assign ?body ?done ?stop
  case hI => exact fun s Y Z row ⟨q', c', h⟩ hg hrr => ⟨q', c', h.abide rfl hg fun r e => ⟨Nat.le_trans hS.kept.size (hrr r e).1, (hrr r e).2⟩⟩
  case hIx => exact fun _ _ _ _ _ h => h.elim
  case hAx => exact fun x a' _ Y Z row ⟨Bx, q', c', pre', h, e⟩ hg hrr => ⟨Bx, q', c', pre', h.abide rfl hg fun r e => ⟨Nat.le_trans hS.kept.size (hrr r e).1, (hrr r e).2⟩, e⟩
  case assign =>
    rintro l pre x W K ⟨q', c', hI⟩ hK
    have hsz := hS.kept.size
    have hS2 := hS
    clear hS
    have hS := St.start (World.mem_in W)
    conv in (Array.foldl _ _ _) => simp
    gi_wp2_with (first 
    | ((with_reducible refine' Li.out ?_; apply ki_box (ty := 34) (y := (.tmp 0)) hS); (· exact .mk); clear hS; intro w2 b2 hS)
    | ((with_reducible refine' Li.out ?_; apply ki_alloc hS); (· exact .mk); clear hS; intro _ _ hS)
    | ((with_reducible refine' Li.out ?_; apply ki_load hS); (· exact .mk))
    | ((with_reducible refine' Li.out ?_; apply ki_loads hS); (· exact .mk))
    | ((with_reducible refine' Li.out ?_; apply ki_store hS); (· exact .mk); clear hS; intro ws hS)
    | ((with_reducible refine' Li.out ?_; apply ki_stores hS); (· exact .mk); clear hS; intro ws hS))
    refine hK _ _ (hS.kept.from (by simp) _) (hS.below.mono hI.kept.size) ⟨q', c', hI.grow (grownBy_of_below hS.below)⟩ ⟨_, q', c', pre, hI.add _ (grownBy_of_below hS.below) (hS.box 0 rfl) (fun b hb => ?_), by simp [Act.put]⟩
    cases hb
    simpa using (hS.has _ (List.mem_cons_self)).2 _ rfl
  case body =>
    rintro l pre x a' W hl ⟨r, hrl⟩ ⟨q1, c1, hI⟩ ⟨Bx, q', c', pre', hA, rfl⟩ hlt
    have h1 := BoxIn.eq (hI.box 0 rfl) (hA.box 1 rfl)
    simp only [List.cons.injEq, Value.slice.injEq, and_true] at h1
    obtain ⟨rfl, hl1, rfl⟩ := h1
    have hlen := Lib.hid hl1
    rw [← hl1] at hA
    have h2 := Lib.hid (ownsRow_eq (hI.row 1 rfl) (hA.row 2 rfl))
    rw [← h2.out] at hA
    have hlt' : (pre.length + 1) * 16 ≤ 140737488355328 := by omega
    clear hl1 hlen h2 hI hrl
    have hA2 : St [] w m W ([.box Bx [.int .i64 x.dist, .int .i64 x.id], .box b2 [.slice q1 pre.length c1], rowQ q1 c1 pre.length (cellsH pre)] ++ []) m := hA
    have hge := St.subGe hA2
    have hlc := St.lentCells hA rfl
    have hsz := hS.kept.size
    have hwW := hA.kept.size
    clear hS
    have hS := St.sub hA2
    gi_wp2_with (first 
    | ((with_reducible refine' Li.out ?_; apply ki_box (ty := 34) (y := (.tmp 0)) hS); (· exact .mk); clear hS; intro w2 b2 hS)
    | ((with_reducible refine' Li.out ?_; apply ki_alloc hS); (· exact .mk); clear hS; intro _ _ hS)
    | ((with_reducible refine' Li.out ?_; apply ki_load hS); (· exact .mk))
    | ((with_reducible refine' Li.out ?_; apply ki_loads hS); (· exact .mk))
    | ((with_reducible refine' Li.out ?_; apply ki_store hS); (· exact .mk); clear hS; intro ws hS)
    | ((with_reducible refine' Li.out ?_; apply ki_stores hS); (· exact .mk); clear hS; intro ws hS)
      | ((with_reducible refine' Li.out ?_; apply li_lit el_hit (cs := [.int .i64 x.dist, .int .i64 x.id]) hS); (· decide); (· decide); (· kernel_rfl); clear hS; intro w10 b10 hS)
      | ((with_reducible refine' Li.out ?_; apply li_appendB el_hit hS (by decide)); (· exact rfl); (· (repeat constructor)); (· exact rfl); (· (repeat constructor)); (· rfl); (· simp [Value.oneCell']); (· omega); clear hS; intro w11 q11 c11 hS))
    have hL := St.lendL hA2 hS
    refine ⟨hS.kept.from hlc _, hS.kept.belowOf hge hwW, q11, c11, ?_⟩
    rw [cellsH_snoc] at hL
    simp only [List.cons_append, List.nil_append, List.length_append, List.length_cons, List.length_nil] at hL ⊢
    exact ((hL.forget (x := .box b10 _) (by (repeat constructor))).forget (x := .box Bx _) (by (repeat constructor)))
  case done =>
    rintro D ys W hD rfl ⟨q', c', hI⟩ hK
    have hsz := hS.kept.size
    clear hS
    have hS := hI
    gi_wp2_with (first 
    | ((with_reducible refine' Li.out ?_; apply ki_box (ty := 34) (y := (.tmp 0)) hS); (· exact .mk); clear hS; intro w2 b2 hS)
    | ((with_reducible refine' Li.out ?_; apply ki_alloc hS); (· exact .mk); clear hS; intro _ _ hS)
    | ((with_reducible refine' Li.out ?_; apply ki_load hS); (· exact .mk))
    | ((with_reducible refine' Li.out ?_; apply ki_loads hS); (· exact .mk))
    | ((with_reducible refine' Li.out ?_; apply ki_store hS); (· exact .mk); clear hS; intro ws hS)
    | ((with_reducible refine' Li.out ?_; apply ki_stores hS); (· exact .mk); clear hS; intro ws hS))
    refine ⟨by simp, .inl ⟨_, _, rfl, run_takeDeferred hK, ?_⟩⟩
    exact ⟨_, results_tmp rfl _ _ _, q', c', rfl, (hS.abide (row := some D) rfl (grownBy_putObj' W D _) fun r e => by cases e; exact ⟨Nat.le_trans hsz hD, _, hK, rfl⟩).drop _ (List.sublist_cons_self _ _)⟩
  case stop => exact fun D cd pre W _ _ h _ => h.elim
end Go.Proofs.YtnbhhdncbajkgaaGreatDoor
/- Walks of which the world behind is known to be the old one, with draws, and blocks behind it. -/
namespace Go.Proofs.YtnbhhdncbajkgaaGreatDoor
set_option linter.unusedVariables false
set_option linter.unusedSimpArgs false
open Go.RowKit Go.Sort
variable {P : Program} {ops : Array Oper} {X : List Nat} {w0 w : World} {m0 m : Mem} {es : List Ent} {o : Oper} {a : Act} {K : Act → World → Prop} {Q : Exit → Act → World → Prop}
variable {rest : List Oper} {dst : Option Tmp} {rt : TypeId} {pos : String} {af : Array Edge} {E : Prop} {g : Nat × Bool}
def Ex (w w' : World) : Prop := ∃ q os, w' = grow (w.drewN q) os
theorem Ex.refl (w : World) : Ex w w := ⟨0, #[], by rw [grow_empty]; rfl⟩
theorem Ex.trans {a b c : World} (h : Ex a b) (k : Ex b c) : Ex a c := by
  obtain ⟨q, os, rfl⟩ := h
  obtain ⟨p, ot, rfl⟩ := k
  exact ⟨q + p, os ++ ot, by show grow (grow ((a.drewN q).drewN p) os) ot = _; rw [grow_grow, World.drewN_drewN]⟩
theorem Ex.drew (w : World) : Ex w w.drew := ⟨1, #[], by rw [grow_empty]; rfl⟩
theorem Ex.alloc (w : World) (o : Obj) : Ex w (w.alloc o) := ⟨0, #[o], alloc_eq_grow w o⟩
theorem wl_box_x {ty : TypeId} {y : Operand} (hS : St X w0 m0 w es m) {cs : List Value} (hs : BoxS a y cs) (h : ∀ w' b, Ex w w' → St X w0 m0 w' (.box b cs :: es) m → wpList P ops Q rest (a.put dst (.pointer (some ⟨b, 0, none⟩))) w') :
    Wl P ops Q (⟨dst, .box ty y, rt, pos, af, none⟩ :: rest) a w := by
  obtain ⟨hy, hc⟩ := hs
  refine ⟨wpList_plain rfl fun K hK => ?_⟩
  subst hy
  have hrun : (Instr.box ty (a.eval y)).run P w = .ok (.pointer (some ⟨w.heap.size, 0, none⟩)) (w.alloc (.cells cs.toArray ty)) := by
    simp [Instr.box, newVar, newRow, hc, newObj, Sem.run_bind, Sem.run, ← World.alloc_eq]
  unfold Oper.wp execOp
  simp only [Sem.run_bind, hrun, Result.andThen_ok, Sem.run_pure]
  exact hK _ _ (h _ _ (Ex.alloc _ _) (hS.box_new cs ty))
theorem s_lit_x {t e : TypeId} {size bytes : Nat} {z : Value} (hE : Elem P t e size bytes z) {len : Nat} {parts : Array (Nat × Operand)} (hS : St X w0 m0 w es m) {cs : List Value} (hlen : len * size ≤ 16777216) (hpos : len * size ≠ 0)
    (hf : Instr.fill (fun i => some (i * size, size)) ((Array.range (len * size)).map (z.cells[· % z.cells.size]!)) (parts.map fun (i, x) => (i, a.eval x)).toList = some cs.toArray)
    (h : ∀ w' b, Ex w w' → St X w0 m0 w' (.box b cs :: es) m → K (a.put dst (.slice (some ⟨b, 0, none⟩) len len)) w') : if Region.wanted ⟨dst, .buildSlice t len parts, rt, pos, af, none⟩ (yielded ops a.tmps) = true then Oper.wp P ⟨dst, .buildSlice t len parts, rt, pos, af, none⟩ a w K Q else E := by
  refine step_of rfl ?_
  obtain ⟨ti, ht1, ht2, ht3, ht4⟩ := hE.at
  have hrun : (Instr.buildSlice t len (parts.map fun (i, x) => (i, a.eval x))).run P w = .ok (.slice (some ⟨w.heap.size, 0, none⟩) len len) (w.alloc (.cells cs.toArray e)) := by
    have hn : ¬ (16777216 < len * size) := by omega
    simp only [Instr.buildSlice, Sem.run_bind, run_underlying hE.under, Result.andThen_ok, sizeOf, typeInfo, zeroValue]
    have hf2 : Instr.fill (fun i => some (i * size, size)) (Array.map (fun x => z.cells[x % z.cells.size]!) (Array.range (len * size))) (List.map (fun x => (x.fst, a.eval x.snd)) parts.toList) = some cs.toArray := by simpa using hf
    simp [ht1, ht2, ht3, hn, hpos, newRow, newObj, Sem.run_bind, Sem.run, ← World.alloc_eq]
    rw [hf2]
    rfl
  unfold Oper.wp execOp
  simp only [Sem.run_bind, hrun, Result.andThen_ok, Sem.run_pure]
  exact h _ _ (Ex.alloc _ _) (hS.box_new cs e)
end Go.Proofs.YtnbhhdncbajkgaaGreatDoor
/- slices.SortFunc at hits. -/
namespace Go.Proofs.YtnbhhdncbajkgaaGreatDoor
set_option linter.unusedVariables false
set_option linter.unusedSimpArgs false
open Go.RowKit Go.Shelf Go.Sort
set_option maxRecDepth 100000 in
set_option maxHeartbeats 2000000 in
theorem or_x (w : World) (b : Nat) (x y : Int) (h0 : w.cell? ⟨b, 0, none⟩ = some (.int .i64 x)) (h1 : w.cell? ⟨b, 1, none⟩ = some (.int .i64 y)) :
    Calls Tryz.prog 110 #[.slice (some ⟨b, 0, none⟩) 2 2] w fun e w' => e = .returned (.int .i64 (orI x y)) ∧ w' = w := by
  go_enter Tryz.func110, Tryz.ntmps110
  go_wp2
  refine wp_loop_rounds 3 ?_
  iterate 3 (all_goals first | (rw [rounds_succ]) | skip); (all_goals go_wp2)
  all_goals (go_ret; exact ⟨by simp_all [orI], rfl⟩)
set_option maxRecDepth 100000 in
set_option maxHeartbeats 2000000 in
theorem order_x (w : World) (x y : Hit) :
    Calls Tryz.prog 97 #[hitA x, hitA y] w fun e w' => e = .returned (.int .i64 (ordI x y)) ∧ ∃ q os, w' = grow (w.drewN q) os := by
  have hS := St.start (World.mem_in w)
  go_enter Tryz.func97, Tryz.ntmps97
  go_wp2_with (first
    | ((with_reducible refine' Wl.out ?_; apply wl_box_x (y := (.tmp 0)) hS); (· exact .mk); clear hS; intro w2 b2 x2 hS)
    | ((with_reducible refine' Wl.out ?_; apply wl_box_x (y := (.tmp 1)) hS); (· exact .mk); clear hS; intro w3 b3 x3 hS))
  have xx := Lib.hid ((x2.trans x3).trans (Ex.drew w3))
  clear x2 x3
  replace hS := hS.drew
  refine startL (S := Sx _ [(b2, _), (b3, _)]) (by kernel_rfl) ((hS.sx0.cons hS (by (repeat constructor))).cons hS (by (repeat constructor))) (fun _ _ _ _ => trivial) (fun hHeld => ?_)
  focus (refine takeN 0 (v := ?_) rfl (by kernel_rfl) ?_ ?_; rotate_left; focus (intro w hSw; clear hSw; go_simp; try with_reducible rfl))
  try simp only [Act.put, nz1, nz2, nz3]
  refine takeN 1 rfl (by kernel_rfl) (yield_load rfl Tryz.underlying2 rfl rfl (by (first | (apply FindX.box; (· (repeat constructor)); rfl) | exact FindX.mem (by assumption)))) ?_
  try simp only [Act.put, nz1, nz2, nz3]
  focus (refine takeN 2 (v := ?_) rfl (by kernel_rfl) ?_ ?_; rotate_left; focus (intro w hSw; clear hSw; go_simp; try with_reducible rfl))
  try simp only [Act.put, nz1, nz2, nz3]
  refine takeN 3 rfl (by kernel_rfl) (yield_load rfl Tryz.underlying2 rfl rfl (by (first | (apply FindX.box; (· (repeat constructor)); rfl) | exact FindX.mem (by assumption)))) ?_
  try simp only [Act.put, nz1, nz2, nz3]
  focus (refine takeN 5 (v := ?_) rfl (by kernel_rfl) ?_ ?_; rotate_left; focus (intro w hSw; clear hSw; go_simp; try with_reducible rfl))
  try simp only [Act.put, nz1, nz2, nz3]
  refine takeN 6 rfl (by kernel_rfl) (yield_load rfl Tryz.underlying2 rfl rfl (by (first | (apply FindX.box; (· (repeat constructor)); rfl) | exact FindX.mem (by assumption)))) ?_
  try simp only [Act.put, nz1, nz2, nz3]
  focus (refine takeN 7 (v := ?_) rfl (by kernel_rfl) ?_ ?_; rotate_left; focus (intro w hSw; clear hSw; go_simp; try with_reducible rfl))
  try simp only [Act.put, nz1, nz2, nz3]
  refine takeN 8 rfl (by kernel_rfl) (yield_load rfl Tryz.underlying2 rfl rfl (by (first | (apply FindX.box; (· (repeat constructor)); rfl) | exact FindX.mem (by assumption)))) ?_
  try simp only [Act.put, nz1, nz2, nz3]
  refine wpAnyH_ready (rs := [4]) (by kernel_rfl) (by simp) ?_
  refine consL 4 rfl (fun K hK => ?_) AllReadyH.nil
  rw [if_pos (by rfl)]; go_simp; refine (Tryz.cmp_Compare_int _ _ _).mono ?_; rintro e' w9 ⟨rfl, rfl⟩; go_wp2_with fail
  refine hK.out _ _ (by first | exact ((hS.sx0.cons hS (by (repeat constructor))).cons hS (by (repeat constructor))) | exact Sx.le (by assumption) ((hS.sx0.cons hS (by (repeat constructor))).cons hS (by (repeat constructor)))) (fun hHeld => ?_)
  clear hK K
  try simp only [Act.put, nz1, nz2, nz3]
  refine wpAnyH_ready (rs := [9]) (by kernel_rfl) (by simp) ?_
  refine consL 9 rfl (fun K hK => ?_) AllReadyH.nil
  rw [if_pos (by rfl)]; go_simp; refine (Tryz.cmp_Compare_int _ _ _).mono ?_; rintro e' w14 ⟨rfl, rfl⟩; go_wp2_with fail
  refine hK.out _ _ (by first | exact ((hS.sx0.cons hS (by (repeat constructor))).cons hS (by (repeat constructor))) | exact Sx.le (by assumption) ((hS.sx0.cons hS (by (repeat constructor))).cons hS (by (repeat constructor)))) (fun hHeld => ?_)
  clear hK K
  try simp only [Act.put, nz1, nz2, nz3]
  refine wpAnyH_ready (rs := [10]) (by kernel_rfl) (by simp) ?_
  refine consL 10 rfl (fun K hK => ?_) AllReadyH.nil
  (with_reducible apply s_lit_x el_int hS (cs := [.int .i64 (Lib.compareInt x.dist y.dist), .int .i64 (Lib.compareInt x.id y.id)])); (· decide); (· decide); (· kernel_rfl); clear hS; intro w15 b15 x15 hS; replace xx := Lib.hid (xx.out.trans x15); clear x15
  refine hK.out _ _ (by first | exact ((hS.sx0.cons hS (by (repeat constructor))).cons hS (by (repeat constructor))) | exact Sx.le (by assumption) ((hS.sx0.cons hS (by (repeat constructor))).cons hS (by (repeat constructor)))) (fun hHeld => ?_)
  clear hK K
  try simp only [Act.put, nz1, nz2, nz3]
  refine wpAnyH_ready (rs := [11]) (by kernel_rfl) (by simp) ?_
  refine consL 11 rfl (fun K hK => ?_) AllReadyH.nil
  rw [if_pos (by rfl)]; go_simp; refine (or_x _ b15 _ _ (World.mem_in _ _ _ (hS.find (.box (by (repeat constructor)) rfl))) (World.mem_in _ _ _ (hS.find (.box (by (repeat constructor)) rfl)))).mono ?_; rintro e' w16 ⟨rfl, rfl⟩; go_wp2_with fail
  refine hK.out _ _ (by first | exact ((hS.sx0.cons hS (by (repeat constructor))).cons hS (by (repeat constructor))) | exact Sx.le (by assumption) ((hS.sx0.cons hS (by (repeat constructor))).cons hS (by (repeat constructor)))) (fun hHeld => ?_)
  clear hK K
  try simp only [Act.put, nz1, nz2, nz3]
  focus (refine takeN 12 (v := ?_) rfl (by kernel_rfl) ?_ ?_; rotate_left; focus (intro w hSw; clear hSw; go_simp; try with_reducible rfl))
  try simp only [Act.put, nz1, nz2, nz3]
  refine wpAnyH_done (by kernel_rfl) ?_ _
  refine NoPanic.normal ?_
  all_goals (go_wp2_with fail; go_ret; exact ⟨rfl, xx.out⟩)
end Go.Proofs.YtnbhhdncbajkgaaGreatDoor
/- slices.SortFunc at hits of the call's own. -/
namespace Go.Proofs.YtnbhhdncbajkgaaGreatDoor
set_option linter.unusedVariables false
set_option linter.unusedSimpArgs false
open Go.RowKit Go.Shelf Go.Sort Go.Lib
instance : Inhabited Hit := ⟨hz⟩
theorem ltOf_ord (x y : Hit) : ltOf ordI x y = decide (x.lt y) := by
  unfold ltOf
  exact decide_eq_decide.2 (ordI_lt x y)
theorem swo_hit : SWO (ltOf ordI) where
  irrefl x := by rw [ltOf_ord]; simpa using Hit.irrefl x
  trans x y z h1 h2 := by rw [ltOf_ord] at *; simp at *; exact Hit.trans h1 h2
  ntrans x y z h1 h2 := by rw [ltOf_ord] at *; simp at *; exact Hit.le_trans h2 h1
theorem flat_get (d : Array Hit) (j : Nat) (h : j < d.size * 2) : (cellsH d.toList)[j]? = some (flatK hitC 2 d)[j]! := by
  rw [get_flatK _ _ _ _ h]
  have hi : j / 2 < d.toList.length := by simp; omega
  have e : d[j / 2]! = d.toList.getD (j / 2) hz := by
    have hi' : j / 2 < d.size := by simpa using hi
    rw [getElem!_pos d (j / 2) hi']
    simp [List.getD, hi']
  have hl : j % 2 < (hitC (d[j / 2]!)).length := by simp [hitC]; omega
  have := cellsH_get d.toList (j / 2) hi (j % 2) ((hitC (d[j / 2]!))[j % 2]!) (by
    rw [e]
    rw [getElem!_pos _ _ (by simp [hitC]; omega)]
    exact List.getElem?_eq_getElem _)
  rw [← this]
  congr 1
  omega
theorem holds_hits {w : World} {e : TypeId} {g c n : Nat} {l : List Hit} (h : w.ownsRow 0 e 2 (.slice (some ⟨g, 0, none⟩) n c) n (cellsH l)) (hn : l.length = n) : HoldsK hitC 2 w g 0 l.toArray := by
  intro j hj
  simp at hj
  have h1 := flat_get l.toArray j (by simpa using hj)
  have h2 := h.cells (g := g) rfl j _ h1
  rw [Addr.add_lit, Nat.zero_add] at h2
  rw [Nat.zero_add]
  refine ⟨h2, ?_⟩
  rcases h.2 with ⟨e, _⟩ | ⟨g', cap, cur, e, hb, hg, _⟩
  · cases e
  · cases e; exact frozen_of_row _ _ _ _ _ hg
theorem ownsRow_sorted {w : World} {e : TypeId} {g c n : Nat} {xs : List Value} (h : w.ownsRow 0 e 2 (.slice (some ⟨g, 0, none⟩) n c) n xs) (d : Array Hit) (hd : d.size = n) (k : Nat) (os : Array Obj) :
    (sortWorldK hitC 2 w g 0 k d os).ownsRow 0 e 2 (.slice (some ⟨g, 0, none⟩) n c) n (cellsH d.toList) ∧ w.grownBy (sortWorldK hitC 2 w g 0 k d os) (some g) := by
  rcases h.2 with ⟨e1, _⟩ | ⟨g', cap, cur, e1, hb, hg, h1, h2, h3, h4⟩
  · cases e1
  · cases e1
    have hgl : g < w.heap.size := (Array.getElem?_eq_some_iff.1 hg).1
    have hheap : (sortWorldK hitC 2 w g 0 k d os).heap = w.heap.modify g (onCells (putCells id 0 (flatK hitC 2 d))) ++ os := rfl
    have hhg : (sortWorldK hitC 2 w g 0 k d os).heap[g]? = some (.cells (putCells id 0 (flatK hitC 2 d) cur) e (0, 0)) := by
      rw [hheap, Array.getElem?_append_left (by simpa using hgl), Array.getElem?_modify, if_pos rfl, hg]
      rfl
    have hsz : (flatK hitC 2 d).size = n * 2 := by rw [size_flatK, hd]
    refine ⟨⟨by rw [cellsH_len]; simp [hd], .inr ⟨g, c, _, rfl, hb, hhg, h1, h2, by simpa [putCells] using h3, ?_⟩⟩, ⟨rfl, rfl, rfl, ?_, fun i hi hne => ?_⟩⟩
    · apply List.ext_getElem?
      intro i
      by_cases hi : i < n * 2
      · rw [List.getElem?_take_of_lt hi, flat_get d i (by rw [hd]; exact hi)]
        have hc : i < cur.size := by omega
        simp only [putCells, Array.toList_mapIdx, List.getElem?_mapIdx]
        rw [Array.getElem?_toList, Array.getElem?_eq_getElem hc]
        simp only [Option.map_some]
        rw [if_pos ⟨Nat.zero_le _, by rw [hsz]; omega⟩]
        simp
      · rw [List.getElem?_take_eq_none (by omega), List.getElem?_eq_none (by rw [cellsH_len]; simp [hd]; omega)]
    · rw [hheap]; simp
    · rw [hheap, Array.getElem?_append_left (by simpa using hi), Array.getElem?_modify, if_neg (fun e => hne (by rw [e]))]
theorem perm_sorted {l : List Hit} {d' : Array Hit} (hp : PermIn 0 l.length l.toArray d') (hs : SortedIn (ltOf ordI) 0 l.length d') : d'.toList = srt l ∧ d'.size = l.length := by
  obtain ⟨h1, _, h3⟩ := hp
  have hsz : d'.size = l.length := by simpa using h1
  refine ⟨srt_eq ?_ ?_, hsz⟩
  · refine List.pairwise_iff_getElem.2 fun i j hi hj hij => ?_
    have := hs i j (Nat.zero_le _) hij (by simpa [hsz] using hj)
    rw [ltOf_ord, getElem!_pos d' j (by simpa using hj), getElem!_pos d' i (by simpa using hi)] at this
    simpa using this
  · have h4 : (d'.extract 0 l.length).toList = d'.toList := by simp [hsz, List.take_of_length_le]
    have h5 : (l.toArray.extract 0 l.length).toList = l := by simp
    rw [h4, h5] at h3
    exact h3
theorem ent_order : ∀ args w, (callFunc 97 args).run Tryz.prog w = .ok (.enter 97 args) w := enters_of Tryz.func97 (by kernel_rfl) rfl
theorem cmp_hits (blk off size : Nat) (w : World) : CmpLays Tryz.prog 97 #[] hitC 2 ordI blk off size w := fun m os dk hs x y => order_x _ x y
theorem sort_c {X : List Nat} {w0 w : World} {m0 m : Mem} {q : Option Addr} {c n : Nat} {l : List Hit} (hS : St X w0 m0 w [rowQ q c n (cellsH l)] m) (hn : l.length = n) (hN : n ≤ 100000) :
    Calls Tryz.prog 108 #[.slice q n c, .func (.func 97) #[] #[]] w fun e w' => e = .returned (.tuple #[]) ∧ St X w0 m0 w' [rowQ q c n (cellsH (srt l))] m := by
  rcases Nat.eq_zero_or_pos n with h0 | h0
  · subst h0
    have : l = [] := List.eq_nil_of_length_eq_zero hn
    subst this
    refine (AnyF.slices_SortFunc_none Tryz.sortHits q c _ w).mono ?_
    rintro e w' ⟨rfl, rfl⟩
    exact ⟨rfl, hS⟩
  · obtain ⟨g, rfl⟩ := ownsRow_some (hS.row 0 rfl) h0
    have hrow := hS.row 0 rfl
    have hgl : g < w.heap.size := ((hS.has _ List.mem_cons_self).1.lt g rfl)
    have hc := AnyQ.slices_SortFunc (P := Tryz.prog) Tryz.sortHits 2 (by intro w; kernel_rfl) (by intro w; kernel_rfl) hitC (fun _ => rfl) (fun x v hv => by simp [hitC] at hv; rcases hv with rfl | rfl <;> rfl) ordI swo_hit 97 #[] g 0 c l.toArray w ent_order (cmp_hits _ _ _ _) (holds_hits hrow hn) hgl (by simp [hn]; omega)
    change Calls Tryz.prog 108 _ _ _ at hc
    simp only [List.size_toArray, hn] at hc
    refine hc.mono ?_
    rintro e w' ⟨rfl, d', k, os, hp, hs, rfl⟩
    rw [← hn] at hp hs
    obtain ⟨e1, e2⟩ := perm_sorted hp hs
    obtain ⟨o1, o2⟩ := ownsRow_sorted hrow d' (by omega) k os
    rw [e1] at o1
    exact ⟨rfl, hS.set 0 _ _ rfl o2 o1 fun b hb => .inl hb⟩
end Go.Proofs.YtnbhhdncbajkgaaGreatDoor
/- best.Sorted, Worst. -/
namespace Go.Proofs.YtnbhhdncbajkgaaGreatDoor
set_option linter.unusedVariables false
set_option linter.unusedSimpArgs false
open Go.RowKit Go.Shelf
/-- A callee knew more. -/
theorem St.less {X : List Nat} {w0 w : World} {M M' m : Mem} {es : List Ent} (h : St X w0 M w es M') (hm : m.Le M) : St X w0 m w es m :=
  ⟨h.kept, h.has, h.apart, fun a v hv => h.know a v (h.le _ _ (hm a v hv)), Mem.Le.refl _, fun a v hv => .inl hv⟩
set_option maxRecDepth 100000 in
set_option maxHeartbeats 4000000 in
theorem values_c (m : Mem) (w : World) (hm : m.In w) (q : Option Addr) (n c : Nat) :
    Calls Tryz.prog 96 #[.slice q n c] w fun e w' => ∃ b, e = .returned (seqH b) ∧ St [] w m w' [.box b [.slice q n c]] m := by
  have hS := St.start hm
  go_enter Tryz.func96, Tryz.ntmps96
  go_wp2_with (first
    | ((with_reducible refine' Wl.out ?_; apply k_box (ty := 34) (y := .tmp 0) hS); (· exact .mk); clear hS; intro w1 b1 hS))
  go_ret
  exact ⟨b1, rfl, hS⟩
abbrev ordV : Value := .func (.func 97) #[] #[]
set_option maxRecDepth 100000 in
set_option maxHeartbeats 4000000 in
theorem sortedFunc_c (m : Mem) (w : World) (hm : m.In w) (Bs : Nat) (q : Option Addr) (c : Nat) (xs : List Hit) (hr : hitL.list.rd m [.slice q xs.length c] xs) (hb : m ⟨Bs, 0, none⟩ = some (.slice q xs.length c)) (hN : xs.length ≤ 100000) :
    Calls Tryz.prog 95 #[seqH Bs, ordV] w fun e w' => ∃ q' c', e = .returned (.slice q' xs.length c') ∧ St [] w m w' [rowQ q' c' xs.length (cellsH (srt xs))] m := by
  have hS := St.start hm
  have HC := Lib.hid (appendSeq_c m w hm Bs q c xs hr hb)
  clear hr hb
  have HD : Hid (Calls Tryz.prog 107 #[seqH Bs] w fun e w' => ∃ q' c', e = .returned (.slice q' xs.length c') ∧ St [] w m w' [rowQ q' c' xs.length (cellsH xs)] m) := by
    show Calls _ _ _ _ _
    go_enter Tryz.func107, Tryz.ntmps107
    go_wp2_with (first
      | (go_at_call 123; refine HC.out.mono ?_; clear hS; rintro e' w7 ⟨q7, c7, rfl, hS⟩))
    go_ret
    exact ⟨q7, c7, rfl, hS⟩
  clear HC
  go_enter Tryz.func95, Tryz.ntmps95
  go_wp2_with (first
    | (go_at_call 107; refine HD.out.mono ?_; clear hS HD; rintro e' w7 ⟨q7, c7, rfl, hS⟩)
    | (go_at_call 108; refine (sort_c hS rfl hN).mono ?_; clear hS; rintro e' w10 ⟨rfl, hS⟩))
  go_ret
  exact ⟨q7, c7, rfl, hS⟩
/-- Hits in order, and why not. -/
def sortH (l : List Hit) (k : Int) : List Hit := if okH l k then srt l else []
set_option maxRecDepth 100000 in
set_option maxHeartbeats 4000000 in
theorem bsorted_c (m : Mem) (w : World) (hm : m.In w) (v : Value) (xs : List Hit) (hr : hitL.list.rd m [v] xs) (K : Int) (hK : InK .i64 K) :
    Calls Tryz.prog 69 #[v, .int .i64 K] w (OwnHE w m (sortH xs K) (chkE xs K)) := by
  have hS := St.start hm
  have HL := Lib.hid hr
  obtain ⟨q, c, rfl, _, _, _, _⟩ := Lay.list_open hr
  clear hr
  by_cases hok : okH xs K
  · have hc : chkE xs K = 0 := if_pos hok
    have hs : sortH xs K = srt xs := if_pos hok
    have hN : xs.length ≤ 100000 := by have := hok.2.1; have := hok.2.2.1; omega
    have hIn : Hid (HitsIn (srt xs)) := fun x hx => hits_in HL.out x ((srt_perm xs).mem_iff.1 hx)
    rw [hs]
    have hG : ∀ e' w', (∃ q' c', e' = Ending.returned (.slice q' xs.length c') ∧ St [] w m w' [rowQ q' c' xs.length (cellsH (srt xs))] m) → True := fun _ _ _ => trivial
    clear hok hs hG
    have hl : Hid ((srt xs).length = xs.length) := srt_length xs
    go_enter Tryz.func69, Tryz.ntmps69
    go_wp2_with (first
      | (go_at_call 88; refine (bcheck_c m _ hS.inw _ xs HL.out K hK).mono ?_; rintro e' w12 ⟨_, m12, rfl, hv12, hk12⟩; replace hS := hS.grow (grownBy_of_below hk12.below); clear hk12; rw [hc] at hv12; subst hv12)
      | (go_at_call 96; refine (values_c m _ hS.inw q xs.length c).mono ?_; rintro e' w14 ⟨b1, rfl, hk14⟩; replace hS := hS.callOwn hk14; clear hk14; simp only [List.append_nil] at hS)
      | (go_at_call 95; refine (sortedFunc_c (World.mem _) _ (World.mem_in _) b1 q c xs (Lay.mono _ hS.inw HL.out) (hS.find (.box (by (repeat constructor)) rfl)) hN).mono ?_; rintro e' w15 ⟨q15, c15, rfl, hk15⟩; replace hS := hS.callOwn (hk15.less hS.inw); clear hk15; simp only [List.cons_append, List.nil_append] at hS))
    go_ret2
    exact ⟨q15, c15, by rw [hl.out, hc]; rfl, hIn.out, by rw [hl.out]; exact hS.drop _ (by simp)⟩
  · have hc : chkE xs K = 1 := if_neg hok
    have hs : sortH xs K = [] := if_neg hok
    rw [hc, hs]
    clear hok hs
    go_enter Tryz.func69, Tryz.ntmps69
    go_wp2_with (first
      | (go_at_call 88; refine (bcheck_c m _ hS.inw _ xs HL.out K hK).mono ?_; rintro e' w12 ⟨_, m12, rfl, hv12, hk12⟩; replace hS := hS.grow (grownBy_of_below hk12.below); clear hk12; rw [hc] at hv12; subst hv12))
    go_ret2
    exact ⟨none, 0, rfl, by simp [HitsIn], hS.noHits⟩
section
variable {P : Program} {X : List Nat} {w0 w : World} {m0 m : Mem} {es : List Ent}
theorem ret_cell_tmp2 {fn : Func} {R : Ending → World → Prop} {a : Act} {p u u2 : Tmp} {ty : TypeId} {b n : Nat} {vs : List Value} (h : fn.results = #[.cell p ty, .tmp u, .tmp u2]) (hp : a.tmps.getD p undef = .pointer (some ⟨b, 0, none⟩)) (hS : St X w0 m0 w es m) (hM : Ent.box b vs ∈ es) (hl : vs.length = n)
    (hn : ∃ d, P.underlying ty = some d ∧ d.isRow = true ∧ (P.info? ty).map (·.size) = some n) (hd : a.defers = []) (hR : R (.returned (.tuple #[.agg vs.toArray, a.tmps.getD u undef, a.tmps.getD u2 undef])) w) : bodyPost P fn R .ret a w := by
  obtain ⟨d, h1, h2, h3⟩ := hn
  have hb : BoxIn w b vs := (hS.has _ hM).1
  have hrun := run_loadVar_mid (P := P) w b 0 ty vs d (fun j v hj => by rw [Nat.zero_add]; exact (hb.get j v hj).1) h1 h2 (by rw [hl]; exact h3)
  have hp' : a.tmps[p]?.getD undef = .pointer (some ⟨b, 0, none⟩) := by simpa using hp
  refine bodyPost_ret_by ?_ hd hR
  simp [results, h, hp', asAddr, hrun]
end
/-- The farthest one, whether there are as many as may be, and why not. -/
def wE (l : List Hit) (k : Int) : Int := if okH l k then (if l.length = 0 then 5 else 0) else 1
def wH (l : List Hit) (k : Int) : Hit := if wE l k = 0 then l.getD 0 hz else hz
def wB (l : List Hit) (k : Int) : Bool := if wE l k = 0 then decide ((l.length : Int) = k) else false
theorem inK0 : InK .i64 0 := ⟨by decide, by decide⟩
end Go.Proofs.YtnbhhdncbajkgaaGreatDoor
/- Results of package best as letters; the reference's Same. -/
namespace Go.Proofs.YtnbhhdncbajkgaaGreatDoor
set_option linter.unusedVariables false
set_option linter.unusedSimpArgs false
open Go.RowKit Go.Shelf
theorem addH_len {l : List Hit} {k : Int} {h : Hit} : (addH l k h).length ≤ 256 := by
  unfold addH
  split
  · rename_i hh
    obtain ⟨h1, h2, h3, _, _, h6⟩ := hh.1
    have := (add_ok (k := k.toNat) (h := h) h6 (by omega) (by omega)).2.1
    omega
  · simp
theorem sortH_len {l : List Hit} {k : Int} : (sortH l k).length ≤ 256 := by
  unfold sortH
  split
  · rename_i hh
    have := srt_length l
    have := hh.2.1
    have := hh.2.2.1
    omega
  · simp
theorem letHE {f : FuncId} {args : Array Value} {w : World} {m : Mem} {R : List Hit} {E : Int} (hb : R.length ≤ 256) (h : Calls Tryz.prog f args w (OwnHE w m R E)) :
    Calls Tryz.prog f args w (Ret w m fun v m' => ∃ p c Y e', Hid (Y = R) ∧ Hid (e' = E) ∧ v = .tuple #[.slice p Y.length c, .int .i64 e'] ∧ Hid (hitL.list.rd m' [.slice p Y.length c] Y) ∧ Hid (Y.length ≤ c ∧ c ≤ maxLen)) :=
  h.mono fun en w' ⟨q, c, h1, h2, h3⟩ => by
    have hc : R.length ≤ c ∧ c ≤ maxLen := by
      rcases (h3.row 0 rfl).2 with ⟨e, h0⟩ | ⟨g, cap, cur, e, _, _, k1, k2, _⟩
      · obtain ⟨_, rfl⟩ : q = none ∧ c = 0 := by injection e with e1 e2 e3; exact ⟨e1, e3⟩
        rw [h0]; exact ⟨Nat.le_refl _, Nat.zero_le _⟩
      · cases e; exact ⟨k1, k2⟩
    obtain ⟨m', hS, hle, hrd⟩ := St.settleRow' (L := hitL) h3 0 rfl rfl (hits_cellsOf m h2) (by show R.length * 16 ≤ _; omega)
    exact ⟨_, m', h1, ⟨q, c, R, E, rfl, rfl, rfl, hrd, hc⟩, ⟨hS.kept, by simp, .nil, fun a v hv => ⟨(hS.know a v hv).1, by simp⟩, hS.le, hS.new⟩⟩
theorem letW {f : FuncId} {args : Array Value} {w : World} {m : Mem} {H : Hit} {B : Bool} {E : Int} (h : Calls Tryz.prog f args w (Ret w m fun v _ => v = .tuple #[hitA H, .bool B, .int .i64 E])) :
    Calls Tryz.prog f args w (Ret w m fun v m' => ∃ H' B' E', Hid (H' = H) ∧ Hid (B' = B) ∧ Hid (E' = E) ∧ v = .tuple #[.agg #[.int .i64 H'.dist, .int .i64 H'.id], .bool B', .int .i64 E']) :=
  h.mono fun en w' ⟨v, m', h1, h2, h3⟩ => ⟨v, m', h1, ⟨H, B, E, rfl, rfl, rfl, h2⟩, h3⟩
set_option maxRecDepth 100000 in
set_option maxHeartbeats 4000000 in
theorem same16_c (m : Mem) (w : World) (hm : m.In w) (v u : Value) (a b : List Hit) (ha : hitL.list.rd m [v] a) (hb : hitL.list.rd m [u] b) :
    Calls Tryz.prog 25 #[v, u] w (Ret w m fun v _ => v = .bool (decide (a = b))) := by
  have hS := St.start hm
  obtain ⟨p, c, rfl, a1, a2, a3, ra⟩ := Lay.list_open ha
  obtain ⟨q, d, rfl, b1, b2, b3, rb⟩ := Lay.list_open hb
  have HA := Lib.hid ra
  have HB := Lib.hid rb
  have hla : a.length ≤ 9223372036854775807 := by simp only [maxLen] at a2; omega
  clear ha hb ra rb a1 a2 a3 b1 b2 b3
  by_cases hl : a.length = b.length
  · have hl1 : (a.length : Int) = b.length := by omega
    have hl2 : ((a.length : Int) != b.length) = false := by simp [hl]
    have HLn := Lib.hid hl
    clear hl hl1
    go_enter Tryz.func25, Tryz.ntmps25
    go_wp2_with fail
    go_loopw [13] (fun i wr => ∃ k : Nat, k ≤ a.length ∧ i = .int .i64 k ∧ Hid (a.take k = b.take k) ∧ St [] w m wr [] m) (fun i _ => a.length - (intOf i).toNat)
    case atStart => exact ⟨0, Nat.zero_le _, rfl, by simp [Hid], hS⟩
    case round =>
      clear hS
      obtain ⟨k, hk, rfl, hP, hS⟩ := hrel
      by_cases hlt : k < a.length
      · have hlt' : k < b.length := by have := HLn.out; omega
        obtain ⟨b1, o1, cs1, rfl, hcs1, hc1⟩ := HA.out.get k hlt
        obtain ⟨b2, o2, cs2, rfl, hcs2, hc2⟩ := HB.out.get k hlt'
        obtain ⟨rfl, i1, i2⟩ := hitL_open hcs1
        obtain ⟨rfl, j1, j2⟩ := hitL_open hcs2
        have hcx : ∀ j v, [Value.int .i64 a[k].dist, .int .i64 a[k].id][j]? = some v → m ⟨b1, o1 + k * 2 + j, none⟩ = some v := hc1
        have hcy : ∀ j v, [Value.int .i64 b[k].dist, .int .i64 b[k].id][j]? = some v → m ⟨b2, o2 + k * 2 + j, none⟩ = some v := hc2
        have hka : (k : Int) < a.length := by omega
        have hkb : (k : Int) < b.length := by omega
        have hN : Hid (a[k] = b[k] → a.take (k + 1) = b.take (k + 1)) := fun e => by
          rw [List.take_succ_eq_append_getElem hlt, List.take_succ_eq_append_getElem hlt', hP.out, e]
        have hM : Hid (a[k] ≠ b[k] → a ≠ b) := fun e h => e (by subst h; rfl)
        clear hcs1 hcs2 hc1 hc2 HA HB hP
        generalize a[k] = x at *
        generalize b[k] = y at *
        by_cases e1 : x.dist = y.dist
        · by_cases e2 : x.id = y.id
          · obtain rfl := Hit.ext' e1 e2
            have HN := Lib.hid (hN.out rfl)
            clear e1 e2 hN hM
            go_wp2_with (first 
    | ((with_reducible refine' Wl.out ?_; apply k_loads hS); (· exact .mk)))
            replace hS := hS.drew
            refine startL (S := Sx _ []) (by kernel_rfl) hS.sx0 (fun _ _ _ _ => trivial) (fun hHeld => ?_)
            focus (refine takeN 0 (v := ?_) rfl (by kernel_rfl) ?_ ?_; rotate_left; focus (intro w hSw; clear hSw; go_simp; try with_reducible rfl))
            try simp only [Act.put, nz1, nz2, nz3]
            focus (refine takeN 1 (v := ?_) rfl (by kernel_rfl) ?_ ?_; rotate_left; focus (intro w hSw; clear hSw; go_simp; try with_reducible rfl))
            try simp only [Act.put, nz1, nz2, nz3]
            focus (refine takeN 2 (v := ?_) rfl (by kernel_rfl) ?_ ?_; rotate_left; focus (intro w hSw; clear hSw; go_simp; try with_reducible rfl))
            try simp only [Act.put, nz1, nz2, nz3]
            refine takeN 3 rfl (by kernel_rfl) (yield_loads rfl rowT86 rfl (by (first | (apply FindsX.box; (· (repeat constructor)); (· (repeat constructor)); done) | (refine FindsX.mem (by assumption) ?_; first | rfl | assumption | (simp; done))))) ?_
            try simp only [Act.put, nz1, nz2, nz3]
            focus (refine takeN 4 (v := ?_) rfl (by kernel_rfl) ?_ ?_; rotate_left; focus (intro w hSw; clear hSw; go_simp; try with_reducible rfl))
            try simp only [Act.put, nz1, nz2, nz3]
            focus (refine takeN 5 (v := ?_) rfl (by kernel_rfl) ?_ ?_; rotate_left; focus (intro w hSw; clear hSw; go_simp; try with_reducible rfl))
            try simp only [Act.put, nz1, nz2, nz3]
            focus (refine takeN 6 (v := ?_) rfl (by kernel_rfl) ?_ ?_; rotate_left; focus (intro w hSw; clear hSw; go_simp; try with_reducible rfl))
            try simp only [Act.put, nz1, nz2, nz3]
            refine takeN 7 rfl (by kernel_rfl) (yield_loads rfl rowT86 rfl (by (first | (apply FindsX.box; (· (repeat constructor)); (· (repeat constructor)); done) | (refine FindsX.mem (by assumption) ?_; first | rfl | assumption | (simp; done))))) ?_
            try simp only [Act.put, nz1, nz2, nz3]
            focus (refine takeN 8 (v := ?_) rfl (by kernel_rfl) ?_ ?_; rotate_left; focus (intro w hSw; clear hSw; go_simp; try with_reducible rfl))
            try simp only [Act.put, nz1, nz2, nz3]
            refine wpAnyH_done (by kernel_rfl) ?_ _
            refine NoPanic.normal ?_
            all_goals go_wp2_with fail
            go_roundw
            case rel => exact ⟨k + 1, hlt, by go_num, HN, hS⟩
            case measure => simp [intOf]; omega
          · have HM := Lib.hid (hM.out fun e => e2 (by rw [e]))
            clear hN hM
            go_wp2_with (first 
    | ((with_reducible refine' Wl.out ?_; apply k_loads hS); (· exact .mk)))
            replace hS := hS.drew
            refine startL (S := Sx _ []) (by kernel_rfl) hS.sx0 (fun _ _ _ _ => trivial) (fun hHeld => ?_)
            focus (refine takeN 0 (v := ?_) rfl (by kernel_rfl) ?_ ?_; rotate_left; focus (intro w hSw; clear hSw; go_simp; try with_reducible rfl))
            try simp only [Act.put, nz1, nz2, nz3]
            focus (refine takeN 1 (v := ?_) rfl (by kernel_rfl) ?_ ?_; rotate_left; focus (intro w hSw; clear hSw; go_simp; try with_reducible rfl))
            try simp only [Act.put, nz1, nz2, nz3]
            focus (refine takeN 2 (v := ?_) rfl (by kernel_rfl) ?_ ?_; rotate_left; focus (intro w hSw; clear hSw; go_simp; try with_reducible rfl))
            try simp only [Act.put, nz1, nz2, nz3]
            refine takeN 3 rfl (by kernel_rfl) (yield_loads rfl rowT86 rfl (by (first | (apply FindsX.box; (· (repeat constructor)); (· (repeat constructor)); done) | (refine FindsX.mem (by assumption) ?_; first | rfl | assumption | (simp; done))))) ?_
            try simp only [Act.put, nz1, nz2, nz3]
            focus (refine takeN 4 (v := ?_) rfl (by kernel_rfl) ?_ ?_; rotate_left; focus (intro w hSw; clear hSw; go_simp; try with_reducible rfl))
            try simp only [Act.put, nz1, nz2, nz3]
            focus (refine takeN 5 (v := ?_) rfl (by kernel_rfl) ?_ ?_; rotate_left; focus (intro w hSw; clear hSw; go_simp; try with_reducible rfl))
            try simp only [Act.put, nz1, nz2, nz3]
            focus (refine takeN 6 (v := ?_) rfl (by kernel_rfl) ?_ ?_; rotate_left; focus (intro w hSw; clear hSw; go_simp; try with_reducible rfl))
            try simp only [Act.put, nz1, nz2, nz3]
            refine takeN 7 rfl (by kernel_rfl) (yield_loads rfl rowT86 rfl (by (first | (apply FindsX.box; (· (repeat constructor)); (· (repeat constructor)); done) | (refine FindsX.mem (by assumption) ?_; first | rfl | assumption | (simp; done))))) ?_
            try simp only [Act.put, nz1, nz2, nz3]
            focus (refine takeN 8 (v := ?_) rfl (by kernel_rfl) ?_ ?_; rotate_left; focus (intro w hSw; clear hSw; go_simp; try with_reducible rfl))
            try simp only [Act.put, nz1, nz2, nz3]
            refine wpAnyH_done (by kernel_rfl) ?_ _
            refine NoPanic.normal ?_
            all_goals go_wp2_with fail
            go_ret
            exact ⟨_, m, rfl, vbool (by have := HM.out; simp [this]), hS.done⟩
        · have HM := Lib.hid (hM.out fun e => e1 (by rw [e]))
          clear hN hM
          go_wp2_with (first 
    | ((with_reducible refine' Wl.out ?_; apply k_loads hS); (· exact .mk)))
          replace hS := hS.drew
          refine startL (S := Sx _ []) (by kernel_rfl) hS.sx0 (fun _ _ _ _ => trivial) (fun hHeld => ?_)
          focus (refine takeN 0 (v := ?_) rfl (by kernel_rfl) ?_ ?_; rotate_left; focus (intro w hSw; clear hSw; go_simp; try with_reducible rfl))
          try simp only [Act.put, nz1, nz2, nz3]
          focus (refine takeN 1 (v := ?_) rfl (by kernel_rfl) ?_ ?_; rotate_left; focus (intro w hSw; clear hSw; go_simp; try with_reducible rfl))
          try simp only [Act.put, nz1, nz2, nz3]
          focus (refine takeN 2 (v := ?_) rfl (by kernel_rfl) ?_ ?_; rotate_left; focus (intro w hSw; clear hSw; go_simp; try with_reducible rfl))
          try simp only [Act.put, nz1, nz2, nz3]
          refine takeN 3 rfl (by kernel_rfl) (yield_loads rfl rowT86 rfl (by (first | (apply FindsX.box; (· (repeat constructor)); (· (repeat constructor)); done) | (refine FindsX.mem (by assumption) ?_; first | rfl | assumption | (simp; done))))) ?_
          try simp only [Act.put, nz1, nz2, nz3]
          focus (refine takeN 4 (v := ?_) rfl (by kernel_rfl) ?_ ?_; rotate_left; focus (intro w hSw; clear hSw; go_simp; try with_reducible rfl))
          try simp only [Act.put, nz1, nz2, nz3]
          focus (refine takeN 5 (v := ?_) rfl (by kernel_rfl) ?_ ?_; rotate_left; focus (intro w hSw; clear hSw; go_simp; try with_reducible rfl))
          try simp only [Act.put, nz1, nz2, nz3]
          focus (refine takeN 6 (v := ?_) rfl (by kernel_rfl) ?_ ?_; rotate_left; focus (intro w hSw; clear hSw; go_simp; try with_reducible rfl))
          try simp only [Act.put, nz1, nz2, nz3]
          refine takeN 7 rfl (by kernel_rfl) (yield_loads rfl rowT86 rfl (by (first | (apply FindsX.box; (· (repeat constructor)); (· (repeat constructor)); done) | (refine FindsX.mem (by assumption) ?_; first | rfl | assumption | (simp; done))))) ?_
          try simp only [Act.put, nz1, nz2, nz3]
          focus (refine takeN 8 (v := ?_) rfl (by kernel_rfl) ?_ ?_; rotate_left; focus (intro w hSw; clear hSw; go_simp; try with_reducible rfl))
          try simp only [Act.put, nz1, nz2, nz3]
          refine wpAnyH_done (by kernel_rfl) ?_ _
          refine NoPanic.normal ?_
          all_goals go_wp2_with fail
          go_ret
          exact ⟨_, m, rfl, vbool (by have := HM.out; simp [this]), hS.done⟩
      · obtain rfl : k = a.length := by omega
        go_wp2_with fail
        go_ret
        have := hP.out
        rw [List.take_length, HLn.out, List.take_length] at this
        exact ⟨_, m, rfl, vbool (by simp [this]), hS.done⟩
  · have hne : decide (a = b) = false := decide_eq_false fun e => hl (by rw [e])
    rw [hne]
    have hl2 : ((a.length : Int) != b.length) = true := by simp; omega
    have hl1 : ¬ (a.length : Int) = b.length := by omega
    clear hl
    go_enter Tryz.func25, Tryz.ntmps25
    go_wp2_with fail
    go_ret
    exact ⟨_, m, rfl, rfl, hS⟩
end Go.Proofs.YtnbhhdncbajkgaaGreatDoor
/- The law's live of layer 16. -/
namespace Go.Proofs.YtnbhhdncbajkgaaGreatDoor
set_option linter.unusedVariables false
set_option linter.unusedSimpArgs false
open Go.RowKit Go.Shelf
section
variable {P : Program} {ops : Array Oper} {X : List Nat} {w0 w : World} {m0 m : Mem} {es : List Ent} {o : Oper} {a : Act} {K : Act → World → Prop} {Q : Exit → Act → World → Prop}
variable {rest : List Oper} {dst : Option Tmp} {rt : TypeId} {pos : String} {af : Array Edge} {E : Prop} {g : Nat × Bool}
theorem wg_lit {t e : TypeId} {size bytes : Nat} {z : Value} (hE : Elem P t e size bytes z) {len : Nat} {parts : Array (Nat × Operand)} (hS : St X w0 m0 w es m) {cs : List Value} (hw : Region.wanted ⟨dst, .buildSlice t len parts, rt, pos, af, some g⟩ (yielded ops a.tmps) = true) (hlen : len * size ≤ 16777216) (hpos : len * size ≠ 0)
    (hf : Instr.fill (fun i => some (i * size, size)) ((Array.range (len * size)).map (z.cells[· % z.cells.size]!)) (parts.map fun (i, x) => (i, a.eval x)).toList = some cs.toArray)
    (h : ∀ w' b, St X w0 m0 w' (.box b cs :: es) m → wpList P ops Q rest (a.put dst (.slice (some ⟨b, 0, none⟩) len len)) w') : Wl P ops Q (⟨dst, .buildSlice t len parts, rt, pos, af, some g⟩ :: rest) a w :=
  ⟨wpList_step fun K hK => step_guard hw (op_lit hS hE len parts rfl hlen hpos cs hf fun w' b hw => hK _ _ (h w' b hw))⟩
end
theorem badd_v (m : Mem) (w : World) (hm : m.In w) (v : Value) (xs : List Hit) (hr : hitL.list.rd m [v] xs) (K : Int) (hK : InK .i64 K) (d i : Int) (hd : InK .i64 d) (hi : InK .i64 i) :
    Calls Tryz.prog 68 #[v, .int .i64 K, .agg #[.int .i64 d, .int .i64 i]] w (OwnHE w m (addH xs K ⟨d, i⟩) (addX xs K ⟨d, i⟩)) := badd_c m w hm v xs hr K hK ⟨d, i⟩ ⟨hd, hi⟩
theorem less_v (m : Mem) (w : World) (hm : m.In w) (d1 i1 d2 i2 : Int) :
    Calls Tryz.prog 103 #[.agg #[.int .i64 d1, .int .i64 i1], .agg #[.int .i64 d2, .int .i64 i2]] w (Ret w m fun v _ => v = .bool (decide ((⟨d1, i1⟩ : Hit).lt ⟨d2, i2⟩))) := less_c m w hm ⟨d1, i1⟩ ⟨d2, i2⟩
theorem two_hits {m : Mem} {b : Nat} {x y : Hit} (h : ∀ j v, [Value.int .i64 x.dist, .int .i64 x.id, .int .i64 y.dist, .int .i64 y.id][j]? = some v → m ⟨b, j, none⟩ = some v) (hx : InK .i64 x.dist ∧ InK .i64 x.id) (hy : InK .i64 y.dist ∧ InK .i64 y.id) : hitL.list.rd m [.slice (some ⟨b, 0, none⟩) 2 2] [x, y] := by
  refine ⟨_, 2, rfl, Nat.le_refl _, by simp [maxLen], by show 2 * 16 ≤ _; decide, fun _ => ⟨b, 0, rfl, fun i z hz => ?_⟩⟩
  match i, hz with
  | 0, hz => cases hz; exact ⟨_, hitL_mk hx.1 hx.2, fun j v hj => by
      have := (List.getElem?_eq_some_iff.1 hj).1
      refine (congrArg m ?_).trans (h j v ?_)
      · simp
      · match j, hj with
        | 0, hj => exact hj
        | 1, hj => exact hj⟩
  | 1, hz => cases hz; exact ⟨_, hitL_mk hy.1 hy.2, fun j v hj => by
      refine (congrArg m ?_).trans (h (2 + j) v ?_)
      · simp [hitL, Lay.by, Lay.prod, Lay.int]
      · match j, hj with
        | 0, hj => exact hj
        | 1, hj => exact hj⟩
end Go.Proofs.YtnbhhdncbajkgaaGreatDoor
/- What is added one by one: plain laws for BestNearest and BestParts. -/
namespace Go.Proofs.YtnbhhdncbajkgaaGreatDoor
set_option linter.unusedVariables false
set_option linter.unusedSimpArgs false
theorem addX_zero {l : List Hit} {k : Int} {h : Hit} (h0 : addX l k h = 0) : okH l k ∧ fineH h ∧ (∀ x ∈ l, x.id ≠ h.id) ∧ addH l k h = addL l k.toNat h := by
  unfold addX at h0
  split at h0
  · rename_i hh
    split at h0
    · rename_i ht
      refine ⟨hh.1, hh.2, fun x hx => ?_, if_pos ⟨hh.1, hh.2, ht⟩⟩
      have := List.any_eq_false.1 ht x hx
      simpa using this
    · omega
  · omega
theorem wrap64 {x : Int} (h1 : 0 ≤ x) (h2 : x ≤ 9223372036854775807) : IntKind.i64.wrap x = x := by
  simp only [IntKind.wrap, IntKind.bits, IntKind.signed]
  simp
  omega
/-- l is a heap of the k nearest ones of S. -/
def InvN (l S : List Hit) (k : Int) : Prop := okH l k ∧ srt l = near k.toNat S ∧ l.length = min S.length k.toNat
theorem InvN.nil {k : Int} (h1 : 1 ≤ k) (h2 : k ≤ 256) : InvN [] [] k := ⟨⟨h1, h2, by simp; omega, by simp, by simp, fun k _ h => by simp at h⟩, by simp [near, srt], by simp⟩
theorem InvN.step {l S : List Hit} {k : Int} {h : Hit} (hI : InvN l S k) (hf : fineH h) (hn : ∀ x ∈ S, x.id ≠ h.id) : addX l k h = 0 ∧ InvN (addH l k h) (S ++ [h]) k := by
  obtain ⟨o, s, ln⟩ := hI
  have hl : ∀ x ∈ l, x.id ≠ h.id := fun x hx => hn x (near_sub (k := k.toNat) x (by rw [← s]; exact (srt_perm l).mem_iff.2 hx))
  have ht : l.any (fun x => decide (x.id = h.id)) = false := List.any_eq_false.2 fun x hx => by simpa using hl x hx
  obtain ⟨e1, e2⟩ := addX_ok o hf ht
  obtain ⟨a1, a2, a3⟩ := add_okH o hf hl
  rw [e2]
  refine ⟨e1, a1, grown_near s a2, ?_⟩
  rw [a3, ln]
  simp
  omega
theorem InvN.sorted {l S : List Hit} {k : Int} (hI : InvN l S k) : sortH l k = near k.toNat S ∧ chkE l k = 0 := by
  refine ⟨?_, if_pos hI.1⟩
  unfold sortH
  rw [if_pos hI.1]
  exact hI.2.1
/-- The hits of distances: each one's place is its id. -/
def Hn (far : List Int) (i : Nat) : Hit := ⟨far.getD i 0, i⟩
def upH (far : List Int) (i : Nat) : List Hit := (List.range i).map (Hn far)
def dnH (far : List Int) (i : Nat) : List Hit := (List.range i).map fun j => Hn far (far.length - 1 - j)
theorem upH_succ (far : List Int) (i : Nat) : upH far (i + 1) = upH far i ++ [Hn far i] := by simp [upH, List.range_succ]
theorem dnH_succ (far : List Int) (i : Nat) : dnH far (i + 1) = dnH far i ++ [Hn far (far.length - 1 - i)] := by simp [dnH, List.range_succ]
theorem upH_new {far : List Int} {i : Nat} : ∀ x ∈ upH far i, x.id ≠ (Hn far i).id := by
  intro x hx
  obtain ⟨j, hj, rfl⟩ := List.mem_map.1 hx
  have := List.mem_range.1 hj
  simp [Hn]
  omega
theorem dnH_new {far : List Int} {i : Nat} (hi : i < far.length) : ∀ x ∈ dnH far i, x.id ≠ (Hn far (far.length - 1 - i)).id := by
  intro x hx
  obtain ⟨j, hj, rfl⟩ := List.mem_map.1 hx
  have := List.mem_range.1 hj
  simp [Hn]
  omega
theorem dn_up (far : List Int) : (dnH far far.length).Perm (upH far far.length) := by
  have e : dnH far far.length = (upH far far.length).reverse := by
    apply List.ext_getElem
    · simp [dnH, upH]
    · intro i h1 h2
      simp [dnH, upH] at *
  rw [e]
  exact List.reverse_perm _
theorem fine_n {far : List Int} (hw : ∀ x ∈ far, 0 ≤ x ∧ x ≤ 65535) {i : Nat} (hi : i < far.length) (h1 : far.length ≤ 100) : fineH (Hn far i) := by
  have := hw (far.getD i 0) (by simp [List.getD, hi])
  unfold fineH Hn
  simp only
  omega
theorem upH_len (far : List Int) (i : Nat) : (upH far i).length = i := by simp [upH]
theorem dnH_len (far : List Int) (i : Nat) : (dnH far i).length = i := by simp [dnH]
theorem upH_nodup (far : List Int) : ∀ i, ((upH far i).map Hit.id).Nodup
  | 0 => by simp [upH]
  | i + 1 => by
    rw [upH_succ, List.map_append, List.nodup_append]
    refine ⟨upH_nodup far i, by simp, fun a ha b hb e => ?_⟩
    obtain ⟨x, hx, rfl⟩ := List.mem_map.1 ha
    simp at hb
    subst hb
    exact upH_new x hx e
/-- What the nearest ones of all are. -/
theorem near_up {far : List Int} {k n : Nat} {s : List Hit} (hs : s = near k (upH far n)) :
    (∀ i, i + 1 < s.length → (s.getD i hz).lt (s.getD (i + 1) hz)) ∧ (∀ i, i < s.length → ∃ j, j < n ∧ s.getD i hz = Hn far j) ∧ s.length = min k n ∧
    (∀ i, i < n → (i : Int) ∉ s.map Hit.id → s.length = k ∧ ∀ x ∈ s, ¬ (Hn far i).lt x) := by
  have hnd : (s.map Hit.id).Nodup := by
    have := ((srt_perm (upH far n)).map Hit.id).nodup_iff.2 (upH_nodup far n)
    rw [hs]
    unfold near
    rw [List.map_take]
    exact this.sublist (List.take_sublist _ _)
  have hst : s.Pairwise Hit.lt := asc_strict (by rw [hs]; exact near_asc _ _) hnd
  refine ⟨fun i hi => ?_, fun i hi => ?_, by rw [hs]; unfold near; rw [List.length_take, srt_length, upH_len], fun i hi hn => ?_⟩
  · have := List.pairwise_iff_getElem.1 hst i (i + 1) (by omega) hi (by omega)
    simpa [List.getD, hi, show i < s.length by omega] using this
  · have hm : s.getD i hz ∈ upH far n := near_sub (k := k) _ (by rw [← hs]; simp [List.getD, hi])
    obtain ⟨j, hj, e⟩ := List.mem_map.1 hm
    exact ⟨j, List.mem_range.1 hj, e.symm⟩
  · have hmem : Hn far i ∈ upH far n := List.mem_map.2 ⟨i, List.mem_range.2 hi, rfl⟩
    have hno : Hn far i ∉ near k (upH far n) := fun h => hn (List.mem_map.2 ⟨_, by rw [hs]; exact h, rfl⟩)
    have := near_rest hmem hno
    rw [hs]
    exact this
/-- Which ids are there. -/
def inF (s : List Hit) (i : Nat) : Int → Option Bool := fun z => if z ∈ (s.take i).map Hit.id then some true else none
theorem inF_zero (s : List Hit) : inF s 0 = fun _ => none := by funext z; simp [inF]
theorem inF_succ {s : List Hit} {i : Nat} (hi : i < s.length) {d : Int} (hd : s[i].id = d) : (fun z => if z = d then some true else inF s i z) = inF s (i + 1) := by
  funext z
  unfold inF
  rw [List.take_succ_eq_append_getElem hi, List.map_append, ← hd]
  by_cases h : z = s[i].id
  · simp [h]
  · simp [h]
theorem inF_all {s : List Hit} {z : Int} : (inF s s.length z).getD false = decide (z ∈ s.map Hit.id) := by
  unfold inF
  rw [List.take_length]
  by_cases h : z ∈ s.map Hit.id
  · rw [if_pos h, decide_eq_true h]; rfl
  · rw [if_neg h, decide_eq_false h]; rfl
end Go.Proofs.YtnbhhdncbajkgaaGreatDoor
/- model.nearest. -/
namespace Go.Proofs.YtnbhhdncbajkgaaGreatDoor
set_option linter.unusedVariables false
set_option linter.unusedSimpArgs false
open Go.RowKit Go.Shelf
theorem mdN_in {a b : List Int} (ha : In16 a) (hb : In16 b) : 0 ≤ dN a b ∧ dN a b ≤ 64 * 4294836225 := by
  unfold dN
  split
  · rename_i h
    have h1 := distN_le ha hb a.length
    have := h.1.2.1
    unfold distV
    generalize distN a b a.length = t at *
    omega
  · omega
noncomputable def hitM (q : List Int) (x : It) : Hit := ⟨dN x.v q, x.id⟩
set_option maxRecDepth 100000 in
set_option maxHeartbeats 8000000 in
theorem nearest_c (m : Mem) (w : World) (hm : m.In w) (p : Option Addr) (c : Nat) (M : Md) (h : itL.list.rd m [.slice p M.l.length c] M.l) (hok : okM M) (vq : Value) (q : List Int) (hq : vecL.rd m [vq] q) (hf : fitsV M.dim q) (K : Int) (hK : 1 ≤ K ∧ K ≤ 256) :
    Calls Tryz.prog 33 #[.agg #[.int .i64 M.cap, .int .i64 M.dim, .slice p M.l.length c], vq, .int .i64 K] w (Ret w m fun v m' => ∃ p' c' R, Hid (R = near K.toNat (M.l.map (hitM q))) ∧ v = .tuple #[.slice p' R.length c', .int .i64 0] ∧ Hid (hitL.list.rd m' [.slice p' R.length c'] R)) := by
  have hS := St.start hm
  have HQ := Lib.hid hq
  have HIq := Lib.hid (ints_in hq)
  obtain ⟨pq, cq, rfl, _⟩ := Lay.list_open hq
  obtain ⟨_, _, e, _, m2, _, r⟩ := Lay.list_open h
  cases e
  have HR := Lib.hid r
  have HO := Lib.hid hok
  have HF := Lib.hid hf
  have hml : M.l.length ≤ 9223372036854775807 := by simp only [maxLen] at m2; omega
  have HK : Hid (InK .i64 K) := inK64 (by omega) (by omega)
  have HI0 : Hid (InvN [] ((M.l.take 0).map (hitM q)) K) := InvN.nil hK.1 hK.2
  clear h hq r m2 hok hf hK
  go_enter Tryz.func33, Tryz.ntmps33
  go_wp2_with (first
    | ((with_reducible refine' Wl.out ?_; apply k_box (ty := 24) (y := (.tmp 0)) hS); (· exact .mk); clear hS; intro w3 b3 hS)
    | ((with_reducible refine' Wl.out ?_; apply k_alloc (ty := 50) (dst := some 9) hS); (· exact .mk); clear hS; intro w9 b9 hS)
    | ((with_reducible refine' Wl.out ?_; apply k_load hS); (· exact .mk))
    | ((with_reducible refine' Wl.out ?_; apply k_loads hS); (· exact .mk))
    | ((with_reducible refine' Wl.out ?_; apply k_stores hS); (· exact .mk); clear hS; intro ws hS))
  go_loopw [6, 15] (fun vl vi wr => ∃ (k : Nat) (kp : Option Addr) (kc : Nat) (l : List Hit) (m' : Mem), k ≤ M.l.length ∧ vl = .slice kp l.length kc ∧ vi = .int .i64 k ∧ Hid (InvN l ((M.l.take k).map (hitM q)) K) ∧ Hid (m.Le m') ∧ Hid (hitL.list.rd m' [.slice kp l.length kc] l) ∧ St [] w m wr [.box b3 [.int .i64 M.cap, .int .i64 M.dim, .slice p M.l.length c]] m') (fun _ vi _ => M.l.length - (intOf vi).toNat)
  case atStart => exact ⟨0, none, 0, [], m, Nat.zero_le _, rfl, rfl, HI0, Mem.Le.refl _, Lay.nil_rd _ _, hS⟩
  case round =>
    clear hS HI0
    obtain ⟨k, kp, kc, l, m', hk, rfl, rfl, hI, hle, hrd, hS⟩ := hrel
    by_cases hlt : k < M.l.length
    · obtain ⟨b, o, qv, cv, rfl, hcx, hin, hvv⟩ := (HR.out.mono hle.out).itemAt k hlt
      have hkz : (k : Int) < M.l.length := by omega
      have HV := Lib.hid hvv
      have HQ' := Lib.hid (Lay.mono _ hle.out HQ.out)
      have hg := okI_of HO.out hlt
      have hfit : fineV (M.l.getD k itz).v ∧ fineV q ∧ (M.l.getD k itz).v.length = q.length := ⟨hg.2.1, HF.out.1, by have := hg.2.2; have := HF.out.2; omega⟩
      have hE : Hid (dE (M.l.getD k itz).v q = 0) := if_pos hfit
      have hD := mdN_in (ints_in hvv) HIq.out
      have hmem : M.l.getD k itz = M.l[k] := by simp [List.getD, hlt]
      have hid := HO.out.2.2.2.2 _ (List.getElem_mem hlt)
      rw [← hmem] at hid
      have hstep := hI.out.step (h := hitM q (M.l.getD k itz)) ⟨hD.1, hid.1, hid.2.1⟩ (fun x hx => by
        obtain ⟨y, hy, rfl⟩ := List.mem_map.1 hx
        obtain ⟨j, hj, rfl⟩ := List.getElem_of_mem hy
        have hj' : j < k := by simp at hj; omega
        have := List.pairwise_iff_getElem.1 HO.out.2.2.2.1 j k (by omega) hlt hj'
        show (M.l.take k)[j].id ≠ (M.l.getD k itz).id
        rw [List.getElem_take, hmem]; omega)
      have hsn : (M.l.take (k + 1)).map (hitM q) = (M.l.take k).map (hitM q) ++ [hitM q (M.l.getD k itz)] := by
        rw [hmem, List.take_succ_eq_append_getElem hlt, List.map_append]; rfl
      rw [← hsn] at hstep
      have HX := Lib.hid hstep.1
      have HN := Lib.hid hstep.2
      have HDI : Hid (InK .i64 (dN (M.l.getD k itz).v q)) := inK64 (by omega) (by omega)
      have HKX := Lib.hid hin
      clear hin hvv hg hfit hD hmem hid hstep hsn hI
      unfold hitM at HX HN
      generalize M.l.getD k itz = x at *
      obtain ⟨D, eD⟩ : ∃ D, dN x.v q = D := ⟨_, rfl⟩
      rw [eD] at HX HDI
      have HDD := Lib.hid eD
      have HNN : Hid (InvN (addH l K ⟨D, x.id⟩) ((M.l.take (k + 1)).map (hitM q)) K) := by have := HN.out; rw [eD] at this; exact this
      clear eD HN
      go_wp2_with (first
    | ((with_reducible refine' Wl.out ?_; apply k_box (ty := 24) (y := (.tmp 0)) hS); (· exact .mk); clear hS; intro w3 b3 hS)
    | ((with_reducible refine' Wl.out ?_; apply k_alloc (ty := 50) (dst := some 9) hS); (· exact .mk); clear hS; intro w9 b9 hS)
    | ((with_reducible refine' Wl.out ?_; apply k_load hS); (· exact .mk))
    | ((with_reducible refine' Wl.out ?_; apply k_loads hS); (· exact .mk))
    | ((with_reducible refine' Wl.out ?_; apply k_stores hS); (· exact .mk); clear hS; intro ws hS)
        | (go_at_call 67; refine (vdist_c m' _ hS.inw _ _ _ _ HV.out HQ'.out).mono ?_; rintro e' w23 ⟨_, m23, rfl, rfl, hk23⟩; replace hS := hS.grow (grownBy_of_below hk23.below); clear hk23; rw [HDD.out, hE.out])
        | (go_at_call 68; refine (letHE addH_len (badd_v _ _ hS.inw _ _ hrd.out _ HK.out _ _ HDI.out HKX.out)).mono ?_; rintro e' w36 ⟨_, m36, rfl, ⟨p36, c36, Y36, E36, HY36, HE36, rfl, R36, C36⟩, hk36⟩; replace hS := hS.call hk36; have HLE := Lib.hid hk36.le; clear hk36; obtain rfl := HE36.out.trans HX.out))
      go_roundw
      case rel => exact ⟨k + 1, p36, c36, Y36, m36, hlt, rfl, by go_num, by rw [HY36.out]; exact HNN, hle.out.trans HLE.out, R36, hS.forget (x := .box b9 _) (by (repeat constructor))⟩
      case measure => simp [intOf]; omega
    · obtain rfl : k = M.l.length := by omega
      have hsrt := Lib.hid hI.out.sorted
      rw [List.take_length] at hsrt
      go_wp2_with (first
    | ((with_reducible refine' Wl.out ?_; apply k_box (ty := 24) (y := (.tmp 0)) hS); (· exact .mk); clear hS; intro w3 b3 hS)
    | ((with_reducible refine' Wl.out ?_; apply k_alloc (ty := 50) (dst := some 9) hS); (· exact .mk); clear hS; intro w9 b9 hS)
    | ((with_reducible refine' Wl.out ?_; apply k_load hS); (· exact .mk))
    | ((with_reducible refine' Wl.out ?_; apply k_loads hS); (· exact .mk))
    | ((with_reducible refine' Wl.out ?_; apply k_stores hS); (· exact .mk); clear hS; intro ws hS)
        | (go_at_call 69; refine (letHE sortH_len (bsorted_c _ _ hS.inw _ _ hrd.out _ HK.out)).mono ?_; rintro e' w45 ⟨_, m45, rfl, ⟨p45, c45, Y45, E45, HY45, HE45, rfl, R45, C45⟩, hk45⟩; replace hS := hS.call hk45; clear hk45; obtain rfl := HE45.out.trans hsrt.out.2))
      go_ret2
      exact ⟨_, m45, rfl, ⟨p45, c45, Y45, HY45.out.trans hsrt.out.1, rfl, R45⟩, hS.done⟩
end Go.Proofs.YtnbhhdncbajkgaaGreatDoor
