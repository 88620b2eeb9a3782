/- Contracts and plain laws that the laws' proofs use, laid together (part 3). -/
import Derived.Test.YtlkdjmpkapeppaaG2
import Derived.WalkKit
import Derived.ProofKit
import Derived.OpenShut
import Derived.SizedLaws
import Derived.Deep.Slices
import Derived.DataReads
import Derived.ChangeSame
import Derived.Lib.SmallJoins
import Derived.Test.YtlkdjmpkapeppaaB
/- Results of package best as letters; the reference's Same. -/
namespace Go.Proofs.Ytlkdjmpkapeppaa
set_option linter.unusedVariables false
set_option linter.unusedSimpArgs false
open Go.RowKit Go.Shelf
theorem addH_len {l : List Hit} {k : Int} {h : Hit} : (addH l k h).length ≤ 256 := by
  unfold addH
  split
  · rename_i hh
    obtain ⟨h1, h2, h3, _, _, h6⟩ := hh.1
    have := (add_ok (k := k.toNat) (h := h) h6 (by omega) (by omega)).2.1
    omega
  · simp
theorem sortH_len {l : List Hit} {k : Int} : (sortH l k).length ≤ 256 := by
  unfold sortH
  split
  · rename_i hh
    have := srt_length l
    have := hh.2.1
    have := hh.2.2.1
    omega
  · simp
theorem letHE {f : FuncId} {args : Array Value} {w : World} {m : Mem} {R : List Hit} {E : Int} (hb : R.length ≤ 256) (h : Calls Try.prog f args w (OwnHE w m R E)) :
    Calls Try.prog f args w (Ret w m fun v m' => ∃ p c Y e', Hid (Y = R) ∧ Hid (e' = E) ∧ v = .tuple #[.slice p Y.length c, .int .i64 e'] ∧ Hid (hitL.list.rd m' [.slice p Y.length c] Y) ∧ Hid (Y.length ≤ c ∧ c ≤ maxLen)) :=
  h.mono fun en w' ⟨q, c, h1, h2, h3⟩ => by
    have hc : R.length ≤ c ∧ c ≤ maxLen := by
      rcases (h3.row 0 rfl).2 with ⟨e, h0⟩ | ⟨g, cap, cur, e, _, _, k1, k2, _⟩
      · obtain ⟨_, rfl⟩ : q = none ∧ c = 0 := by injection e with e1 e2 e3; exact ⟨e1, e3⟩
        rw [h0]; exact ⟨Nat.le_refl _, Nat.zero_le _⟩
      · cases e; exact ⟨k1, k2⟩
    obtain ⟨m', hS, hle, hrd⟩ := St.settleRow' (L := hitL) h3 0 rfl rfl (hits_cellsOf m h2) (by show R.length * 16 ≤ _; omega)
    exact ⟨_, m', h1, ⟨q, c, R, E, rfl, rfl, rfl, hrd, hc⟩, ⟨hS.kept, by simp, .nil, fun a v hv => ⟨(hS.know a v hv).1, by simp⟩, hS.le, hS.new⟩⟩
theorem letW {f : FuncId} {args : Array Value} {w : World} {m : Mem} {H : Hit} {B : Bool} {E : Int} (h : Calls Try.prog f args w (Ret w m fun v _ => v = .tuple #[hitA H, .bool B, .int .i64 E])) :
    Calls Try.prog f args w (Ret w m fun v m' => ∃ H' B' E', Hid (H' = H) ∧ Hid (B' = B) ∧ Hid (E' = E) ∧ v = .tuple #[.agg #[.int .i64 H'.dist, .int .i64 H'.id], .bool B', .int .i64 E']) :=
  h.mono fun en w' ⟨v, m', h1, h2, h3⟩ => ⟨v, m', h1, ⟨H, B, E, rfl, rfl, rfl, h2⟩, h3⟩
set_option maxRecDepth 100000 in
set_option maxHeartbeats 4000000 in
theorem same16_c (m : Mem) (w : World) (hm : m.In w) (v u : Value) (a b : List Hit) (ha : hitL.list.rd m [v] a) (hb : hitL.list.rd m [u] b) :
    Calls Try.prog 15 #[v, u] w (Ret w m fun v _ => v = .bool (decide (a = b))) := by
  have hS := St.start hm
  obtain ⟨p, c, rfl, a1, a2, a3, ra⟩ := Lay.list_open ha
  obtain ⟨q, d, rfl, b1, b2, b3, rb⟩ := Lay.list_open hb
  have HA := Lib.hid ra
  have HB := Lib.hid rb
  have hla : a.length ≤ 9223372036854775807 := by simp only [maxLen] at a2; omega
  clear ha hb ra rb a1 a2 a3 b1 b2 b3
  by_cases hl : a.length = b.length
  · have hl1 : (a.length : Int) = b.length := by omega
    have hl2 : ((a.length : Int) != b.length) = false := by simp [hl]
    have HLn := Lib.hid hl
    clear hl hl1
    go_enter Try.func15, Try.ntmps15
    go_wp2_with fail
    go_loopw [13] (fun i wr => ∃ k : Nat, k ≤ a.length ∧ i = .int .i64 k ∧ Hid (a.take k = b.take k) ∧ St [] w m wr [] m) (fun i _ => a.length - (intOf i).toNat)
    case atStart => exact ⟨0, Nat.zero_le _, rfl, by simp [Hid], hS⟩
    case round =>
      clear hS
      obtain ⟨k, hk, rfl, hP, hS⟩ := hrel
      by_cases hlt : k < a.length
      · have hlt' : k < b.length := by have := HLn.out; omega
        obtain ⟨b1, o1, cs1, rfl, hcs1, hc1⟩ := HA.out.get k hlt
        obtain ⟨b2, o2, cs2, rfl, hcs2, hc2⟩ := HB.out.get k hlt'
        obtain ⟨rfl, i1, i2⟩ := hitL_open hcs1
        obtain ⟨rfl, j1, j2⟩ := hitL_open hcs2
        have hcx : ∀ j v, [Value.int .i64 a[k].dist, .int .i64 a[k].id][j]? = some v → m ⟨b1, o1 + k * 2 + j, none⟩ = some v := hc1
        have hcy : ∀ j v, [Value.int .i64 b[k].dist, .int .i64 b[k].id][j]? = some v → m ⟨b2, o2 + k * 2 + j, none⟩ = some v := hc2
        have hka : (k : Int) < a.length := by omega
        have hkb : (k : Int) < b.length := by omega
        have hN : Hid (a[k] = b[k] → a.take (k + 1) = b.take (k + 1)) := fun e => by
          rw [List.take_succ_eq_append_getElem hlt, List.take_succ_eq_append_getElem hlt', hP.out, e]
        have hM : Hid (a[k] ≠ b[k] → a ≠ b) := fun e h => e (by subst h; rfl)
        clear hcs1 hcs2 hc1 hc2 HA HB hP
        generalize a[k] = x at *
        generalize b[k] = y at *
        by_cases e1 : x.dist = y.dist
        · by_cases e2 : x.id = y.id
          · obtain rfl := Hit.ext' e1 e2
            have HN := Lib.hid (hN.out rfl)
            clear e1 e2 hN hM
            go_wp2_with (first 
    | ((with_reducible refine' Wl.out ?_; apply k_loads hS); (· exact .mk)))
            replace hS := hS.drew
            refine startL (S := Sx _ []) (by kernel_rfl) hS.sx0 (fun _ _ _ _ => trivial) (fun hHeld => ?_)
            focus (refine takeN 0 (v := ?_) rfl (by kernel_rfl) ?_ ?_; rotate_left; focus (intro w hSw; clear hSw; go_simp; try with_reducible rfl))
            try simp only [Act.put, nz1, nz2, nz3]
            focus (refine takeN 1 (v := ?_) rfl (by kernel_rfl) ?_ ?_; rotate_left; focus (intro w hSw; clear hSw; go_simp; try with_reducible rfl))
            try simp only [Act.put, nz1, nz2, nz3]
            focus (refine takeN 2 (v := ?_) rfl (by kernel_rfl) ?_ ?_; rotate_left; focus (intro w hSw; clear hSw; go_simp; try with_reducible rfl))
            try simp only [Act.put, nz1, nz2, nz3]
            refine takeN 3 rfl (by kernel_rfl) (yield_loads rfl rowT30 rfl (by (first | (apply FindsX.box; (· (repeat constructor)); (· (repeat constructor)); done) | (refine FindsX.mem (by assumption) ?_; first | rfl | assumption | (simp; done))))) ?_
            try simp only [Act.put, nz1, nz2, nz3]
            focus (refine takeN 4 (v := ?_) rfl (by kernel_rfl) ?_ ?_; rotate_left; focus (intro w hSw; clear hSw; go_simp; try with_reducible rfl))
            try simp only [Act.put, nz1, nz2, nz3]
            focus (refine takeN 5 (v := ?_) rfl (by kernel_rfl) ?_ ?_; rotate_left; focus (intro w hSw; clear hSw; go_simp; try with_reducible rfl))
            try simp only [Act.put, nz1, nz2, nz3]
            focus (refine takeN 6 (v := ?_) rfl (by kernel_rfl) ?_ ?_; rotate_left; focus (intro w hSw; clear hSw; go_simp; try with_reducible rfl))
            try simp only [Act.put, nz1, nz2, nz3]
            refine takeN 7 rfl (by kernel_rfl) (yield_loads rfl rowT30 rfl (by (first | (apply FindsX.box; (· (repeat constructor)); (· (repeat constructor)); done) | (refine FindsX.mem (by assumption) ?_; first | rfl | assumption | (simp; done))))) ?_
            try simp only [Act.put, nz1, nz2, nz3]
            focus (refine takeN 8 (v := ?_) rfl (by kernel_rfl) ?_ ?_; rotate_left; focus (intro w hSw; clear hSw; go_simp; try with_reducible rfl))
            try simp only [Act.put, nz1, nz2, nz3]
            refine wpAnyH_done (by kernel_rfl) ?_ _
            refine NoPanic.normal ?_
            all_goals go_wp2_with fail
            go_roundw
            case rel => exact ⟨k + 1, hlt, by go_num, HN, hS⟩
            case measure => simp [intOf]; omega
          · have HM := Lib.hid (hM.out fun e => e2 (by rw [e]))
            clear hN hM
            go_wp2_with (first 
    | ((with_reducible refine' Wl.out ?_; apply k_loads hS); (· exact .mk)))
            replace hS := hS.drew
            refine startL (S := Sx _ []) (by kernel_rfl) hS.sx0 (fun _ _ _ _ => trivial) (fun hHeld => ?_)
            focus (refine takeN 0 (v := ?_) rfl (by kernel_rfl) ?_ ?_; rotate_left; focus (intro w hSw; clear hSw; go_simp; try with_reducible rfl))
            try simp only [Act.put, nz1, nz2, nz3]
            focus (refine takeN 1 (v := ?_) rfl (by kernel_rfl) ?_ ?_; rotate_left; focus (intro w hSw; clear hSw; go_simp; try with_reducible rfl))
            try simp only [Act.put, nz1, nz2, nz3]
            focus (refine takeN 2 (v := ?_) rfl (by kernel_rfl) ?_ ?_; rotate_left; focus (intro w hSw; clear hSw; go_simp; try with_reducible rfl))
            try simp only [Act.put, nz1, nz2, nz3]
            refine takeN 3 rfl (by kernel_rfl) (yield_loads rfl rowT30 rfl (by (first | (apply FindsX.box; (· (repeat constructor)); (· (repeat constructor)); done) | (refine FindsX.mem (by assumption) ?_; first | rfl | assumption | (simp; done))))) ?_
            try simp only [Act.put, nz1, nz2, nz3]
            focus (refine takeN 4 (v := ?_) rfl (by kernel_rfl) ?_ ?_; rotate_left; focus (intro w hSw; clear hSw; go_simp; try with_reducible rfl))
            try simp only [Act.put, nz1, nz2, nz3]
            focus (refine takeN 5 (v := ?_) rfl (by kernel_rfl) ?_ ?_; rotate_left; focus (intro w hSw; clear hSw; go_simp; try with_reducible rfl))
            try simp only [Act.put, nz1, nz2, nz3]
            focus (refine takeN 6 (v := ?_) rfl (by kernel_rfl) ?_ ?_; rotate_left; focus (intro w hSw; clear hSw; go_simp; try with_reducible rfl))
            try simp only [Act.put, nz1, nz2, nz3]
            refine takeN 7 rfl (by kernel_rfl) (yield_loads rfl rowT30 rfl (by (first | (apply FindsX.box; (· (repeat constructor)); (· (repeat constructor)); done) | (refine FindsX.mem (by assumption) ?_; first | rfl | assumption | (simp; done))))) ?_
            try simp only [Act.put, nz1, nz2, nz3]
            focus (refine takeN 8 (v := ?_) rfl (by kernel_rfl) ?_ ?_; rotate_left; focus (intro w hSw; clear hSw; go_simp; try with_reducible rfl))
            try simp only [Act.put, nz1, nz2, nz3]
            refine wpAnyH_done (by kernel_rfl) ?_ _
            refine NoPanic.normal ?_
            all_goals go_wp2_with fail
            go_ret
            exact ⟨_, m, rfl, vbool (by have := HM.out; simp [this]), hS.done⟩
        · have HM := Lib.hid (hM.out fun e => e1 (by rw [e]))
          clear hN hM
          go_wp2_with (first 
    | ((with_reducible refine' Wl.out ?_; apply k_loads hS); (· exact .mk)))
          replace hS := hS.drew
          refine startL (S := Sx _ []) (by kernel_rfl) hS.sx0 (fun _ _ _ _ => trivial) (fun hHeld => ?_)
          focus (refine takeN 0 (v := ?_) rfl (by kernel_rfl) ?_ ?_; rotate_left; focus (intro w hSw; clear hSw; go_simp; try with_reducible rfl))
          try simp only [Act.put, nz1, nz2, nz3]
          focus (refine takeN 1 (v := ?_) rfl (by kernel_rfl) ?_ ?_; rotate_left; focus (intro w hSw; clear hSw; go_simp; try with_reducible rfl))
          try simp only [Act.put, nz1, nz2, nz3]
          focus (refine takeN 2 (v := ?_) rfl (by kernel_rfl) ?_ ?_; rotate_left; focus (intro w hSw; clear hSw; go_simp; try with_reducible rfl))
          try simp only [Act.put, nz1, nz2, nz3]
          refine takeN 3 rfl (by kernel_rfl) (yield_loads rfl rowT30 rfl (by (first | (apply FindsX.box; (· (repeat constructor)); (· (repeat constructor)); done) | (refine FindsX.mem (by assumption) ?_; first | rfl | assumption | (simp; done))))) ?_
          try simp only [Act.put, nz1, nz2, nz3]
          focus (refine takeN 4 (v := ?_) rfl (by kernel_rfl) ?_ ?_; rotate_left; focus (intro w hSw; clear hSw; go_simp; try with_reducible rfl))
          try simp only [Act.put, nz1, nz2, nz3]
          focus (refine takeN 5 (v := ?_) rfl (by kernel_rfl) ?_ ?_; rotate_left; focus (intro w hSw; clear hSw; go_simp; try with_reducible rfl))
          try simp only [Act.put, nz1, nz2, nz3]
          focus (refine takeN 6 (v := ?_) rfl (by kernel_rfl) ?_ ?_; rotate_left; focus (intro w hSw; clear hSw; go_simp; try with_reducible rfl))
          try simp only [Act.put, nz1, nz2, nz3]
          refine takeN 7 rfl (by kernel_rfl) (yield_loads rfl rowT30 rfl (by (first | (apply FindsX.box; (· (repeat constructor)); (· (repeat constructor)); done) | (refine FindsX.mem (by assumption) ?_; first | rfl | assumption | (simp; done))))) ?_
          try simp only [Act.put, nz1, nz2, nz3]
          focus (refine takeN 8 (v := ?_) rfl (by kernel_rfl) ?_ ?_; rotate_left; focus (intro w hSw; clear hSw; go_simp; try with_reducible rfl))
          try simp only [Act.put, nz1, nz2, nz3]
          refine wpAnyH_done (by kernel_rfl) ?_ _
          refine NoPanic.normal ?_
          all_goals go_wp2_with fail
          go_ret
          exact ⟨_, m, rfl, vbool (by have := HM.out; simp [this]), hS.done⟩
      · obtain rfl : k = a.length := by omega
        go_wp2_with fail
        go_ret
        have := hP.out
        rw [List.take_length, HLn.out, List.take_length] at this
        exact ⟨_, m, rfl, vbool (by simp [this]), hS.done⟩
  · have hne : decide (a = b) = false := decide_eq_false fun e => hl (by rw [e])
    rw [hne]
    have hl2 : ((a.length : Int) != b.length) = true := by simp; omega
    have hl1 : ¬ (a.length : Int) = b.length := by omega
    clear hl
    go_enter Try.func15, Try.ntmps15
    go_wp2_with fail
    go_ret
    exact ⟨_, m, rfl, rfl, hS⟩
end Go.Proofs.Ytlkdjmpkapeppaa
/- The law's live of layer 16. -/
namespace Go.Proofs.Ytlkdjmpkapeppaa
set_option linter.unusedVariables false
set_option linter.unusedSimpArgs false
open Go.RowKit Go.Shelf
section
variable {P : Program} {ops : Array Oper} {X : List Nat} {w0 w : World} {m0 m : Mem} {es : List Ent} {o : Oper} {a : Act} {K : Act → World → Prop} {Q : Exit → Act → World → Prop}
variable {rest : List Oper} {dst : Option Tmp} {rt : TypeId} {pos : String} {af : Array Edge} {E : Prop} {g : Nat × Bool}
theorem wg_lit {t e : TypeId} {size bytes : Nat} {z : Value} (hE : Elem P t e size bytes z) {len : Nat} {parts : Array (Nat × Operand)} (hS : St X w0 m0 w es m) {cs : List Value} (hw : Region.wanted ⟨dst, .buildSlice t len parts, rt, pos, af, some g⟩ (yielded ops a.tmps) = true) (hlen : len * size ≤ 16777216) (hpos : len * size ≠ 0)
    (hf : Instr.fill (fun i => some (i * size, size)) ((Array.range (len * size)).map (z.cells[· % z.cells.size]!)) (parts.map fun (i, x) => (i, a.eval x)).toList = some cs.toArray)
    (h : ∀ w' b, St X w0 m0 w' (.box b cs :: es) m → wpList P ops Q rest (a.put dst (.slice (some ⟨b, 0, none⟩) len len)) w') : Wl P ops Q (⟨dst, .buildSlice t len parts, rt, pos, af, some g⟩ :: rest) a w :=
  ⟨wpList_step fun K hK => step_guard hw (op_lit hS hE len parts rfl hlen hpos cs hf fun w' b hw => hK _ _ (h w' b hw))⟩
end
theorem badd_v (m : Mem) (w : World) (hm : m.In w) (v : Value) (xs : List Hit) (hr : hitL.list.rd m [v] xs) (K : Int) (hK : InK .i64 K) (d i : Int) (hd : InK .i64 d) (hi : InK .i64 i) :
    Calls Try.prog 12 #[v, .int .i64 K, .agg #[.int .i64 d, .int .i64 i]] w (OwnHE w m (addH xs K ⟨d, i⟩) (addX xs K ⟨d, i⟩)) := badd_c m w hm v xs hr K hK ⟨d, i⟩ ⟨hd, hi⟩
theorem less_v (m : Mem) (w : World) (hm : m.In w) (d1 i1 d2 i2 : Int) :
    Calls Try.prog 16 #[.agg #[.int .i64 d1, .int .i64 i1], .agg #[.int .i64 d2, .int .i64 i2]] w (Ret w m fun v _ => v = .bool (decide ((⟨d1, i1⟩ : Hit).lt ⟨d2, i2⟩))) := less_c m w hm ⟨d1, i1⟩ ⟨d2, i2⟩
theorem two_hits {m : Mem} {b : Nat} {x y : Hit} (h : ∀ j v, [Value.int .i64 x.dist, .int .i64 x.id, .int .i64 y.dist, .int .i64 y.id][j]? = some v → m ⟨b, j, none⟩ = some v) (hx : InK .i64 x.dist ∧ InK .i64 x.id) (hy : InK .i64 y.dist ∧ InK .i64 y.id) : hitL.list.rd m [.slice (some ⟨b, 0, none⟩) 2 2] [x, y] := by
  refine ⟨_, 2, rfl, Nat.le_refl _, by simp [maxLen], by show 2 * 16 ≤ _; decide, fun _ => ⟨b, 0, rfl, fun i z hz => ?_⟩⟩
  match i, hz with
  | 0, hz => cases hz; exact ⟨_, hitL_mk hx.1 hx.2, fun j v hj => by
      have := (List.getElem?_eq_some_iff.1 hj).1
      refine (congrArg m ?_).trans (h j v ?_)
      · simp
      · match j, hj with
        | 0, hj => exact hj
        | 1, hj => exact hj⟩
  | 1, hz => cases hz; exact ⟨_, hitL_mk hy.1 hy.2, fun j v hj => by
      refine (congrArg m ?_).trans (h (2 + j) v ?_)
      · simp [hitL, Lay.by, Lay.prod, Lay.int]
      · match j, hj with
        | 0, hj => exact hj
        | 1, hj => exact hj⟩
theorem el_i64 : Elem Try.prog 45 2 1 8 (.int .i64 0) := ⟨Try.underlying45, by kernel_rfl, rfl, by decide⟩
theorem lv1 : addH [] 2 ⟨5, 0⟩ = [⟨5, 0⟩] := by decide +kernel
theorem lv2 : addH [⟨5, 0⟩] 2 ⟨3, 1⟩ = [⟨5, 0⟩, ⟨3, 1⟩] := by decide +kernel
theorem lv3 : addH [⟨5, 0⟩, ⟨3, 1⟩] 2 ⟨4, 2⟩ = [⟨4, 2⟩, ⟨3, 1⟩] := by decide +kernel
theorem lx1 : addX [] 2 ⟨5, 0⟩ = 0 := by decide +kernel
theorem lx2 : addX [⟨5, 0⟩] 2 ⟨3, 1⟩ = 0 := by decide +kernel
theorem lx3 : addX [⟨5, 0⟩, ⟨3, 1⟩] 2 ⟨4, 2⟩ = 0 := by decide +kernel
theorem ls1 : sortH [⟨4, 2⟩, ⟨3, 1⟩] 2 = [⟨3, 1⟩, ⟨4, 2⟩] := by decide +kernel
theorem ls2 : chkE [⟨4, 2⟩, ⟨3, 1⟩] 2 = 0 := by decide +kernel
set_option maxRecDepth 100000 in
set_option maxHeartbeats 4000000 in
theorem live16_c (m : Mem) (w : World) (hm : m.In w) :
    Calls Try.prog 11 #[] w (Ret w m fun v _ => v = .bool true) := by
  have hS := St.start hm
  have I2 := Lib.hid (inK64 (x := 2) (by decide) (by decide))
  have RL : True := trivial
  go_enter Try.func11, Try.ntmps11
  go_wp2_with (first
    | ((with_reducible refine' Wl.out ?_; apply wl_lit el_i64 (cs := [.int .i64 5, .int .i64 3, .int .i64 4]) hS); (· decide); (· decide); (· kernel_rfl); clear hS; intro w8 b8 hS))
  refine wp_loop_rounds 4 ?_
  iterate 4
    (all_goals first | (rw [rounds_succ]) | skip)
    (all_goals go_wp2_with (first 
    | ((with_reducible refine' Wl.out ?_; apply k_load hS); (· exact .mk))
      | (go_at_call 12; refine (letHE addH_len (badd_v _ _ hS.inw _ _ (by first | exact RL.out | exact Lay.nil_rd _ _) _ I2.out _ _ (inK64 (by decide) (by decide)) (inK64 (by decide) (by decide)))).mono ?_; clear RL; rintro e' w20 ⟨_, m20, rfl, ⟨p20, c20, Y20, E20, HY20, HE20, rfl, RL, _⟩, hk⟩; replace hS := hS.call hk; clear hk; (first | (obtain rfl := HE20.out.trans lx1; obtain rfl := HY20.out.trans lv1) | (obtain rfl := HE20.out.trans lx2; obtain rfl := HY20.out.trans lv2) | (obtain rfl := HE20.out.trans lx3; obtain rfl := HY20.out.trans lv3)); clear HY20 HE20)
      | (go_at_call 14; refine (letHE sortH_len (bsorted_c _ _ hS.inw _ _ RL.out _ I2.out)).mono ?_; rintro e' w29 ⟨_, m29, rfl, ⟨p29, c29, Y29, E29, HY29, HE29, rfl, RS, _⟩, hk⟩; replace hS := hS.call hk; clear hk; obtain rfl := HE29.out.trans ls2; obtain rfl := HY29.out.trans ls1; clear HY29 HE29)
      | ((with_reducible refine' Wl.out ?_; apply wg_lit el_hit (cs := [.int .i64 3, .int .i64 1, .int .i64 4, .int .i64 2]) hS); (· rfl); (· decide); (· decide); (· kernel_rfl); clear hS; intro w38 b38 hS; obtain ⟨m38, hS38, hle38, hb38⟩ := hS.settleBox 0 rfl; replace hS := hS38; clear hS38; have R38 := Lib.hid (two_hits (x := ⟨3, 1⟩) (y := ⟨4, 2⟩) hb38 ⟨inK64 (by decide) (by decide), inK64 (by decide) (by decide)⟩ ⟨inK64 (by decide) (by decide), inK64 (by decide) (by decide)⟩); replace RS := Lib.hid (Lay.mono _ hle38 RS.out); clear hle38 hb38)
      | (go_at_call 15; refine (same16_c _ _ hS.inw _ _ _ _ RS.out R38.out).mono ?_; rintro e' w39 ⟨_, m39, rfl, rfl, hk⟩; replace hS := hS.call hk; clear hk)))
  go_ret
  exact ⟨_, _, rfl, rfl, hS.done⟩
end Go.Proofs.Ytlkdjmpkapeppaa
/- How the arguments of a law are opened: by layouts. -/
namespace Go.Proofs.Ytlkdjmpkapeppaa
set_option linter.unusedVariables false
set_option linter.unusedSimpArgs false
open Go.RowKit Go.ChangeShapes Go.WideShapes
/-- What comes in at the type t is read by L. -/
def Opens {α : Type} (P : Program) (L : Lay α) (t : TypeId) : Prop := ∀ (H : Type) (enc : TypeId × Value → H) (W : World) (sp : Nat → Bool) (hd : Bool) (fuel : Nat) (cs : List Value) (d : DataW H) (ps : List MemPlace),
  DataW.trod enc P W 0 sp hd fuel t cs = some (d, ps) → (∀ n ∈ d.weights P t, n ≤ reachBytes) → ∃ x, L.rd (World.mem W) cs x
theorem wf_inK {k : IntKind} {n : Int} (h : (Lit.int k n).wf = true) : InK k n := by
  simp [Lit.wf] at h
  exact h
theorem Opens.int {P : Program} {t : TypeId} {k : IntKind} (ht : P.underlying t = some (.int k)) : Opens P (Lay.int k) t := by
  intro H enc W sp hd fuel cs d ps h _
  cases fuel with
  | zero => cases h
  | succ fuel =>
    unfold DataW.trod at h
    rw [ht] at h
    match cs, h with
    | [.int k' n], h =>
      simp only at h
      split at h
      · rename_i hk
        obtain ⟨rfl, hw⟩ := hk
        exact ⟨n, rfl, wf_inK hw⟩
      · cases h
theorem Opens.bool {P : Program} {t : TypeId} (ht : P.underlying t = some .bool) : Opens P Lay.bool t := by
  intro H enc W sp hd fuel cs d ps h _
  cases fuel with
  | zero => cases h
  | succ fuel =>
    unfold DataW.trod at h
    rw [ht] at h
    match cs, h with
    | [.bool b], h => exact ⟨b, rfl⟩
theorem weightsAll_mem {H : Type} {P : Program} {e : TypeId} : ∀ {l : List (DataW H)} {d : DataW H}, d ∈ l → ∀ n ∈ d.weights P e, n ∈ DataW.weightsAll P e l
  | x :: l, d, h, n, hn => by
    simp only [DataW.weightsAll, List.mem_append]
    rcases List.mem_cons.1 h with rfl | h
    · exact .inl hn
    · exact .inr (weightsAll_mem h n hn)
theorem Opens.list {α : Type} {P : Program} {L : Lay α} {t e : TypeId} (ht : P.underlying t = some (.slice e)) (he : Opens P L e) (hc : P.cellsOf e = L.n) (hb : P.bytesOf e = L.bytes) (h0 : 0 < L.n) : Opens P L.list t := by
  intro H enc W sp hd fuel cs d ps h hw
  rcases Go.Deep.open_slice ht h with ⟨rfl, _⟩ | ⟨a, len, cap, m, n, D, Pl, rfl, _, hl, hm, hmm, hx, hel⟩
  · exact ⟨[], Lay.nil_rd _ _⟩
  · obtain ⟨rfl, rfl⟩ := Prod.mk.inj hx
    have hlm : len ≤ m := by rw [hmm]; split <;> omega
    have hwt : (len + (m - len)) * P.bytesOf e ≤ reachBytes := by
      refine hw _ ?_
      simp [DataW.weights, ht]
    have hex : ∀ i : Fin len, ∃ x, ∃ cs', L.rd (World.mem W) cs' x ∧ ∀ j v, cs'[j]? = some v → W.cell? ((a.add (i.1 * L.n)).add j) = some v := by
      intro i
      obtain ⟨cs', h1, h2⟩ := hel i.1 (by have := i.2; omega)
      obtain ⟨x, hx⟩ := he H enc W sp hd n cs' (D i.1) (Pl i.1) h2 (fun k hk => hw k (by
        simp only [DataW.weights, ht, List.mem_cons, List.mem_append]
        exact .inr (.inl (weightsAll_mem (List.mem_map.2 ⟨i.1, by simp, rfl⟩) k hk))))
      obtain ⟨_, hlen, hcell⟩ := World.cells?_some h1
      refine ⟨x, cs', hx, fun j v hj => ?_⟩
      have hjl := (List.getElem?_eq_some_iff.1 hj).1
      have := hcell j (by omega)
      rw [hj, hc] at this
      exact this
    obtain ⟨f, hf⟩ := Classical.axiomOfChoice hex
    have hlen : (List.ofFn f).length = len := by simp
    refine ⟨List.ofFn f, some a, cap, by rw [hlen], by rw [hlen]; exact hl, hm, ?_, ?_⟩
    · rw [hlen, ← hb]
      have : len * P.bytesOf e ≤ (len + (m - len)) * P.bytesOf e := Nat.mul_le_mul_right _ (by omega)
      simp only [reachBytes] at hwt
      omega
    · intro hpos
      obtain ⟨cs0, hr0, hc0⟩ := hf ⟨0, by omega⟩
      obtain ⟨b, o, sp'⟩ := a
      obtain rfl : sp' = none := by
        have hl0 := L.len hr0
        simpa [Addr.add] using World.cell?_spot (hc0 0 cs0[0] (List.getElem?_eq_getElem (by omega)))
      refine ⟨b, o, rfl, fun i x hx => ?_⟩
      have hi : i < len := by have := (List.getElem?_eq_some_iff.1 hx).1; omega
      obtain ⟨cs', h1, h2⟩ := hf ⟨i, hi⟩
      have e1 : x = f ⟨i, hi⟩ := by
        have := (List.getElem?_eq_some_iff.1 hx).2
        rw [← this]; simp
      rw [e1]
      refine ⟨cs', h1, fun j v hj => ?_⟩
      have := h2 j v hj
      rw [Addr.add_lit, Addr.add_lit] at this
      exact this
theorem weights_of {H : Type} {P : Program} {ts : List TypeId} {ds : List (DataW H)} {j : Nat} {t : TypeId} {d : DataW H} (hsz : (DataW.weightsEach P ts ds).all (· ≤ reachBytes) = true) (ht : ts[j]? = some t) (hd : ds[j]? = some d) : ∀ n ∈ d.weights P t, n ≤ reachBytes :=
  fun n hn => by simpa using List.all_eq_true.1 hsz n (DataW.weights_mem_each ht hd n hn)
end Go.Proofs.Ytlkdjmpkapeppaa
/- How the arguments of a law are opened: hits. -/
namespace Go.Proofs.Ytlkdjmpkapeppaa
set_option linter.unusedVariables false
set_option linter.unusedSimpArgs false
open Go.RowKit Go.ChangeShapes Go.WideShapes
set_option maxRecDepth 100000 in
theorem opens_hit : Opens Try.prog hitL 30 := by
  intro H enc W sp hd fuel cs d ps h hw
  obtain ⟨y0, y1, n, hx, hl, h0, h1⟩ := trod_struct2 Try.underlying30 h
  obtain ⟨rfl, rfl⟩ := Prod.mk.inj hx
  have hl2 : cs.length = 2 := hl
  match cs, hl2 with
  | [c0, c1], _ =>
    obtain ⟨x0, g0⟩ := Opens.int (k := .i64) Try.underlying2 H enc W sp hd n [c0] y0.1 y0.2 h0 (fun k hk => hw k (by simp [DataW.weights, Try.underlying30, DataW.weightsEach]; exact .inl hk))
    obtain ⟨x1, g1⟩ := Opens.int (k := .i64) Try.underlying2 H enc W sp hd n [c1] y1.1 y1.2 h1 (fun k hk => hw k (by simp [DataW.weights, Try.underlying30, DataW.weightsEach]; exact .inr hk))
    exact ⟨⟨x0, x1⟩, [c0], [c1], rfl, g0, g1⟩
set_option maxRecDepth 100000 in
/-- A hit comes in. -/
theorem openHit {H : Type} {enc : TypeId × Value → H} {W : World} {sp : Nat → Bool} {hd : Bool} {v : Value} {d : DataW H} {ps : List MemPlace} {r : Reach} {b0 : Nat} (hv : Value.okWide Try.prog W r b0 30 v) (h : DataW.Trod enc Try.prog W 0 sp hd 30 v d ps) (hw : ∀ n ∈ d.weights Try.prog 30, n ≤ reachBytes) :
    ∃ x : Hit, v = .agg #[.int .i64 x.dist, .int .i64 x.id] ∧ InK .i64 x.dist ∧ InK .i64 x.id := by
  obtain ⟨v0, v1, y0, y1, n, rfl, rfl, rfl, h0, h1⟩ := Go.Joins.open_agg2 Try.underlying30 (by kernel_rfl) (by kernel_rfl) hv h
  obtain ⟨x0, e0, k0⟩ := Opens.int (k := .i64) Try.underlying2 H enc W sp hd n [v0] y0.1 y0.2 h0 (fun k hk => hw k (by simp [DataW.weights, Try.underlying30, DataW.weightsEach]; exact .inl hk))
  obtain ⟨x1, e1, k1⟩ := Opens.int (k := .i64) Try.underlying2 H enc W sp hd n [v1] y1.1 y1.2 h1 (fun k hk => hw k (by simp [DataW.weights, Try.underlying30, DataW.weightsEach]; exact .inr hk))
  cases e0
  cases e1
  exact ⟨⟨x0, x1⟩, rfl, k0, k1⟩
set_option maxRecDepth 100000 in
/-- Hits come in. -/
theorem openSlHit {H : Type} {enc : TypeId × Value → H} {W : World} {sp : Nat → Bool} {hd : Bool} {v : Value} {d : DataW H} {ps : List MemPlace} {r : Reach} {b0 : Nat} (hv : Value.okWide Try.prog W r b0 24 v) (h : DataW.Trod enc Try.prog W 0 sp hd 24 v d ps) (hw : ∀ n ∈ d.weights Try.prog 24, n ≤ reachBytes) : ∃ x, hitL.list.rd (World.mem W) [v] x := by
  obtain ⟨a, len, cap, rfl⟩ := Go.WideShapes.okWide_slice Try.underlying24 hv
  obtain ⟨fuel, hf⟩ := h
  exact Opens.list (L := hitL) Try.underlying24 opens_hit (by kernel_rfl) (by kernel_rfl) (by decide) H enc W sp hd fuel _ d ps (by simpa [Value.cells] using hf) hw
end Go.Proofs.Ytlkdjmpkapeppaa
/- How the arguments of a row are opened: slices of integers. -/
namespace Go.Proofs.Ytlkdjmpkapeppaa
set_option linter.unusedVariables false
set_option linter.unusedSimpArgs false
open Go.RowKit Go.ChangeShapes Go.WideShapes
theorem rd_opened {k : IntKind} {W : World} {x : Addr} {len cap : Nat} {zs : List Int} (hl : len ≤ cap) (hm : cap ≤ maxLen) (hz : zs.length = cap)
    (hc : ∀ i, i < zs.length → W.cell? (x.add i) = some (.int k (zs.getD i 0))) (hw : ∀ n ∈ zs, (Lit.int k n).wf = true) :
    ∃ xs : List Int, xs.length = len ∧ len ≤ cap ∧ cap ≤ maxLen ∧ Rd k W (some x) xs ∧ ∀ x ∈ xs, (Lit.int k x).wf = true := by
  refine ⟨zs.take len, by simp; omega, hl, hm, fun h0 => ?_, fun y hy => hw y (List.mem_of_mem_take hy)⟩
  simp at h0
  obtain ⟨b, o, s⟩ := x
  obtain rfl : s = none := by simpa [Addr.add] using World.cell?_spot (hc 0 (by omega))
  refine ⟨b, o, rfl, fun i hi => ?_⟩
  simp at hi
  rw [← Addr.add_lit, hc i (by omega)]
  simp [List.getD, List.getElem?_take, show i < len by omega]
theorem sized_rd {H : Type} {enc : TypeId × Value → H} {P : Program} {W : World} {base : Nat} {spare : Nat → Bool} {held : Bool} {t e : TypeId} {k : IntKind} {a : Option Addr} {len cap : Nat} {d : DataW H} {ps : List MemPlace} {ts : List TypeId} {ds : List (DataW H)} {j : Nat}
    (hsz : (DataW.weightsEach P ts ds).all (· ≤ reachBytes) = true) (ht : ts[j]? = some t) (hd : ds[j]? = some d) (hu : P.underlying t = some (.slice e)) (he : P.underlying e = some (.int k)) (hc : P.cellsOf e = 1) {B : Nat} (hB : P.bytesOf e = B)
    (h : DataW.Trod enc P W base spare held t (.slice a len cap) d ps) : len * B ≤ 140737488351232 := by
  obtain ⟨fuel, hf⟩ := h
  rcases open_ints hu he hc hf with ⟨hcs, _⟩ | ⟨x, l, c, zs, hcs, _, hl, _, hz, hx, _, _⟩
  · simp [Value.cells] at hcs
    obtain ⟨rfl, rfl, rfl⟩ := hcs
    simp
  · simp [Value.cells] at hcs
    obtain ⟨rfl, rfl, rfl⟩ := hcs
    obtain ⟨rfl, _⟩ := Prod.mk.inj hx
    have z := sized_slice hsz ht hd hu
    rw [hB] at z
    have h2 : len ≤ zs.length := by rw [hz]; split <;> omega
    have h1 : (lits (H := H) k (zs.take len)).length + (lits (H := H) k (zs.drop len)).length = zs.length := by simp [lits]; omega
    rw [h1] at z
    exact Nat.le_trans (Nat.mul_le_mul_right _ h2) z
theorem isB_of_wf {xs : List Int} (h : ∀ x ∈ xs, (Lit.int .u8 x).wf = true) : IsB xs := fun x hx => by
  have := h x hx
  simp [Lit.wf, IntKind.min, IntKind.max, IntKind.signed, IntKind.bits] at this
  omega
end Go.Proofs.Ytlkdjmpkapeppaa
/- All that the laws of layer 16 use. -/
