/- Contracts and plain laws that the laws' proofs use, laid together (part 4). -/
import Derived.Test.YtnmgiiaejpaeeaaG3
import Derived.Test.YtnmgiiaejpaeeaaB
import Derived.ProofKit
import Derived.OpenShut
import Derived.SizedLaws
import Derived.WalkKit
import Derived.Deep.Slices
import Derived.DataReads
import Derived.ChangeSame
import Derived.Lib.SmallJoins
/- Contract over the state of a walk: the reference's Same. -/
namespace Go.Proofs.Ytnmgiiaejpaeeaa
set_option linter.unusedVariables false
set_option linter.unusedSimpArgs false
open Go.RowKit Go.Shelf
theorem ifYes {c A B : Prop} [Decidable c] (h : c) (ha : A) : if c then A else B := by rw [if_pos h]; exact ha
theorem ifNo {c A B : Prop} [Decidable c] (h : ¬ c) (hb : B) : if c then A else B := by rw [if_neg h]; exact hb
deriving instance DecidableEq for Wr
deriving instance DecidableEq for Dk
def sameD (d e : Dk) : Bool := decide (d = e)
theorem sameD_true {d e : Dk} (h1 : d.dry = e.dry) (h2 : d.wet = e.wet) (h3 : d.fuse = e.fuse) (h4 : d.dead = e.dead) : sameD d e = true := by
  cases d; cases e; simp_all [sameD]
theorem sameD_no {d e : Dk} (h : d ≠ e) : sameD d e = false := decide_eq_false h
set_option maxRecDepth 100000 in
set_option maxHeartbeats 4000000 in
theorem rsame_c (m : Mem) (w : World) (hm : m.In w) (cs ds : List Value) (d e : Dk) (h : dkL.rd m cs d) (h' : dkL.rd m ds e) :
    Calls Try.prog 49 #[.agg cs.toArray, .agg ds.toArray] w (Ret w m fun v _ => v = .bool (sameD d e)) := by
  obtain ⟨v0, v1, rfl, h0, h1, _⟩ := dkL_open h
  obtain ⟨v2, v3, rfl, h2, h3, _⟩ := dkL_open h'
  have H0 := Lib.hid h0
  have H2 := Lib.hid h2
  obtain ⟨p0, c0, rfl, _⟩ := Lay.list_open h0
  obtain ⟨p1, c1, rfl, a1, a2, a3, a4⟩ := Lay.list_open h1
  obtain ⟨p2, c2, rfl, _⟩ := Lay.list_open h2
  obtain ⟨p3, c3, rfl, b1, b2, b3, b4⟩ := Lay.list_open h3
  have A4 := Lib.hid a4
  have B4 := Lib.hid b4
  simp only [maxLen] at a2 b2
  have hS := St.start hm
  clear h h' h0 h1 h2 h3 a3 a4 b3 b4
  by_cases q1 : d.dry = e.dry
  case neg =>
    have D := Lib.hid (sameD_no (fun h : d = e => q1 (by rw [h])))
    have Q1 := Lib.hid (decide_eq_false q1)
    clear q1
    go_enter Try.func49, Try.ntmps49
    go_wp2_with (first 
    | ((with_reducible apply l_box (ty := 44) (y := (.tmp 0)) hS); (· (first | (go_simp; done) | (go_simp; with_reducible rfl))); (· exact rfl); intro w2 b2 hS1; replace hS := hS1; clear hS1)
    | ((with_reducible apply l_box (ty := 44) (y := (.tmp 1)) hS); (· (first | (go_simp; done) | (go_simp; with_reducible rfl))); (· exact rfl); intro w3 b3 hS1; replace hS := hS1; clear hS1)
    | ((with_reducible apply l_load hS); (· (first | exact Try.underlying3 | exact Try.underlying4 | exact Try.underlying22 | exact Try.underlying42)); (· exact rfl); (· exact rfl); (· (first | (apply Find.box; (· (repeat (first | exact List.Mem.head _ | apply List.Mem.tail))); rfl) | exact Find.mem (by assumption) | (refine Find.row (by (repeat (first | exact List.Mem.head _ | apply List.Mem.tail))) ?_; assumption))))
    | ((with_reducible apply g_load hS); (· (first | exact Try.underlying3 | exact Try.underlying4 | exact Try.underlying22 | exact Try.underlying42)); (· exact rfl); (· (first | rfl | (go_simp; done))); (· exact rfl); (· (first | (apply Find.box; (· (repeat (first | exact List.Mem.head _ | apply List.Mem.tail))); rfl) | exact Find.mem (by assumption) | (refine Find.row (by (repeat (first | exact List.Mem.head _ | apply List.Mem.tail))) ?_; assumption))))
      | (go_at_call 32; refine (same_c _ _ hS.inw _ _ _ _ H0.out H2.out).mono ?_; rintro e' w10 ⟨rfl, rfl⟩; rw [Q1.out]))
    go_ret
    exact ⟨_, m, rfl, by rw [D.out] <;> rfl, hS.done⟩
  have Q1 := Lib.hid (decide_eq_true q1)
  have QQ1 := Lib.hid q1
  clear q1
  by_cases q2 : d.wet.length = e.wet.length
  case neg =>
    have D := Lib.hid (sameD_no (fun h : d = e => q2 (by rw [h])))
    have Q2 : ((d.wet.length : Int) != (e.wet.length : Int)) = true := by rw [bne_iff_ne]; omega
    clear q2
    go_enter Try.func49, Try.ntmps49
    go_wp2_with (first 
    | ((with_reducible apply l_box (ty := 44) (y := (.tmp 0)) hS); (· (first | (go_simp; done) | (go_simp; with_reducible rfl))); (· exact rfl); intro w2 b2 hS1; replace hS := hS1; clear hS1)
    | ((with_reducible apply l_box (ty := 44) (y := (.tmp 1)) hS); (· (first | (go_simp; done) | (go_simp; with_reducible rfl))); (· exact rfl); intro w3 b3 hS1; replace hS := hS1; clear hS1)
    | ((with_reducible apply l_load hS); (· (first | exact Try.underlying3 | exact Try.underlying4 | exact Try.underlying22 | exact Try.underlying42)); (· exact rfl); (· exact rfl); (· (first | (apply Find.box; (· (repeat (first | exact List.Mem.head _ | apply List.Mem.tail))); rfl) | exact Find.mem (by assumption) | (refine Find.row (by (repeat (first | exact List.Mem.head _ | apply List.Mem.tail))) ?_; assumption))))
    | ((with_reducible apply g_load hS); (· (first | exact Try.underlying3 | exact Try.underlying4 | exact Try.underlying22 | exact Try.underlying42)); (· exact rfl); (· (first | rfl | (go_simp; done))); (· exact rfl); (· (first | (apply Find.box; (· (repeat (first | exact List.Mem.head _ | apply List.Mem.tail))); rfl) | exact Find.mem (by assumption) | (refine Find.row (by (repeat (first | exact List.Mem.head _ | apply List.Mem.tail))) ?_; assumption))))
      | (go_at_call 32; refine (same_c _ _ hS.inw _ _ _ _ H0.out H2.out).mono ?_; rintro e' w10 ⟨rfl, rfl⟩; rw [Q1.out]))
    go_ret
    exact ⟨_, m, rfl, by rw [D.out] <;> rfl, hS.done⟩
  by_cases q3 : d.fuse = e.fuse
  case neg =>
    have D := Lib.hid (sameD_no (fun h : d = e => q3 (by rw [h])))
    have Q3 : (d.fuse != e.fuse) = true := by rw [bne_iff_ne]; exact q3
    rw [← q2]
    clear q2 q3
    go_enter Try.func49, Try.ntmps49
    go_wp2_with (first 
    | ((with_reducible apply l_box (ty := 44) (y := (.tmp 0)) hS); (· (first | (go_simp; done) | (go_simp; with_reducible rfl))); (· exact rfl); intro w2 b2 hS1; replace hS := hS1; clear hS1)
    | ((with_reducible apply l_box (ty := 44) (y := (.tmp 1)) hS); (· (first | (go_simp; done) | (go_simp; with_reducible rfl))); (· exact rfl); intro w3 b3 hS1; replace hS := hS1; clear hS1)
    | ((with_reducible apply l_load hS); (· (first | exact Try.underlying3 | exact Try.underlying4 | exact Try.underlying22 | exact Try.underlying42)); (· exact rfl); (· exact rfl); (· (first | (apply Find.box; (· (repeat (first | exact List.Mem.head _ | apply List.Mem.tail))); rfl) | exact Find.mem (by assumption) | (refine Find.row (by (repeat (first | exact List.Mem.head _ | apply List.Mem.tail))) ?_; assumption))))
    | ((with_reducible apply g_load hS); (· (first | exact Try.underlying3 | exact Try.underlying4 | exact Try.underlying22 | exact Try.underlying42)); (· exact rfl); (· (first | rfl | (go_simp; done))); (· exact rfl); (· (first | (apply Find.box; (· (repeat (first | exact List.Mem.head _ | apply List.Mem.tail))); rfl) | exact Find.mem (by assumption) | (refine Find.row (by (repeat (first | exact List.Mem.head _ | apply List.Mem.tail))) ?_; assumption))))
      | (go_at_call 32; refine (same_c _ _ hS.inw _ _ _ _ H0.out H2.out).mono ?_; rintro e' w10 ⟨rfl, rfl⟩; rw [Q1.out]))
    go_ret
    exact ⟨_, m, rfl, by rw [D.out] <;> rfl, hS.done⟩
  have QQ3 := Lib.hid q3
  by_cases q4 : d.dead = e.dead
  case neg =>
    have D := Lib.hid (sameD_no (fun h : d = e => q4 (by rw [h])))
    have hq : (d.dead = true ∧ e.dead = false) ∨ (d.dead = false ∧ e.dead = true) := by
      cases hd : d.dead <;> cases he : e.dead <;> simp_all
    rw [← q2, ← q3]
    clear q2 q3 q4
    rcases hq with ⟨h1, h2⟩ | ⟨h1, h2⟩
    all_goals
      rw [h1, h2]
      clear h1 h2
      go_enter Try.func49, Try.ntmps49
      go_wp2_with (first 
    | ((with_reducible apply l_box (ty := 44) (y := (.tmp 0)) hS); (· (first | (go_simp; done) | (go_simp; with_reducible rfl))); (· exact rfl); intro w2 b2 hS1; replace hS := hS1; clear hS1)
    | ((with_reducible apply l_box (ty := 44) (y := (.tmp 1)) hS); (· (first | (go_simp; done) | (go_simp; with_reducible rfl))); (· exact rfl); intro w3 b3 hS1; replace hS := hS1; clear hS1)
    | ((with_reducible apply l_load hS); (· (first | exact Try.underlying3 | exact Try.underlying4 | exact Try.underlying22 | exact Try.underlying42)); (· exact rfl); (· exact rfl); (· (first | (apply Find.box; (· (repeat (first | exact List.Mem.head _ | apply List.Mem.tail))); rfl) | exact Find.mem (by assumption) | (refine Find.row (by (repeat (first | exact List.Mem.head _ | apply List.Mem.tail))) ?_; assumption))))
    | ((with_reducible apply g_load hS); (· (first | exact Try.underlying3 | exact Try.underlying4 | exact Try.underlying22 | exact Try.underlying42)); (· exact rfl); (· (first | rfl | (go_simp; done))); (· exact rfl); (· (first | (apply Find.box; (· (repeat (first | exact List.Mem.head _ | apply List.Mem.tail))); rfl) | exact Find.mem (by assumption) | (refine Find.row (by (repeat (first | exact List.Mem.head _ | apply List.Mem.tail))) ?_; assumption))))
        | (go_at_call 32; refine (same_c _ _ hS.inw _ _ _ _ H0.out H2.out).mono ?_; rintro e' w10 ⟨rfl, rfl⟩; rw [Q1.out]))
      go_ret
      exact ⟨_, m, rfl, by rw [D.out] <;> rfl, hS.done⟩
  have QQ4 := Lib.hid q4
  have QQ2 := Lib.hid q2
  rw [← q2, ← q3, ← q4]
  rw [← q2] at b1
  clear q2 q3 q4
  go_enter Try.func49, Try.ntmps49
  go_wp2_with (first 
    | ((with_reducible apply l_box (ty := 44) (y := (.tmp 0)) hS); (· (first | (go_simp; done) | (go_simp; with_reducible rfl))); (· exact rfl); intro w2 b2 hS1; replace hS := hS1; clear hS1)
    | ((with_reducible apply l_box (ty := 44) (y := (.tmp 1)) hS); (· (first | (go_simp; done) | (go_simp; with_reducible rfl))); (· exact rfl); intro w3 b3 hS1; replace hS := hS1; clear hS1)
    | ((with_reducible apply l_load hS); (· (first | exact Try.underlying3 | exact Try.underlying4 | exact Try.underlying22 | exact Try.underlying42)); (· exact rfl); (· exact rfl); (· (first | (apply Find.box; (· (repeat (first | exact List.Mem.head _ | apply List.Mem.tail))); rfl) | exact Find.mem (by assumption) | (refine Find.row (by (repeat (first | exact List.Mem.head _ | apply List.Mem.tail))) ?_; assumption))))
    | ((with_reducible apply g_load hS); (· (first | exact Try.underlying3 | exact Try.underlying4 | exact Try.underlying22 | exact Try.underlying42)); (· exact rfl); (· (first | rfl | (go_simp; done))); (· exact rfl); (· (first | (apply Find.box; (· (repeat (first | exact List.Mem.head _ | apply List.Mem.tail))); rfl) | exact Find.mem (by assumption) | (refine Find.row (by (repeat (first | exact List.Mem.head _ | apply List.Mem.tail))) ?_; assumption))))
    | (go_at_call 32; refine (same_c _ _ hS.inw _ _ _ _ H0.out H2.out).mono ?_; rintro e' w10 ⟨rfl, rfl⟩; rw [Q1.out]))
  go_loopw [38] (fun i wr => ∃ k : Nat, k ≤ d.wet.length ∧ i = .int .i64 k ∧ Hid (d.wet.take k = e.wet.take k) ∧ St [] w m wr [.box b3 [.slice p2 e.dry.length c2, .slice p3 d.wet.length c3, .int .i64 d.fuse, .bool d.dead], .box b2 [.slice p0 d.dry.length c0, .slice p1 d.wet.length c1, .int .i64 d.fuse, .bool d.dead]] m) (fun i _ => d.wet.length - (intOf i).toNat)
  case atStart => exact ⟨0, Nat.zero_le _, rfl, by simp [Hid], hS⟩
  case round =>
    clear hS
    obtain ⟨k, hk, rfl, hall, hS⟩ := hrel
    by_cases hlt : k < d.wet.length
    · have hlt' : k < e.wet.length := by rw [← QQ2.out]; exact hlt
      obtain ⟨b, o, cs, rfl, hx, hg⟩ := A4.out.get k hlt
      obtain ⟨v, rfl, _, hv⟩ := wrL_open hx
      have HV := Lib.hid hv
      obtain ⟨q, c, rfl, x1, x2, x3, x4⟩ := Lay.list_open hv
      obtain ⟨bb, oo, cs', rfl, hx', hgg⟩ := B4.out.get k hlt'
      obtain ⟨v', rfl, _, hv'⟩ := wrL_open hx'
      have HV' := Lib.hid hv'
      obtain ⟨q', c', rfl, y1, y2, y3, y4⟩ := Lay.list_open hv'
      have g1 : m ⟨b, o + k * 2, none⟩ = some (.int .i64 d.wet[k].pos) := hg 0 _ rfl
      have g2 : m ⟨b, o + k * 2 + 1, none⟩ = some (.slice q d.wet[k].b.length c) := hg 1 _ rfl
      have g3 : m ⟨bb, oo + k * 2, none⟩ = some (.int .i64 e.wet[k].pos) := hgg 0 _ rfl
      have g4 : m ⟨bb, oo + k * 2 + 1, none⟩ = some (.slice q' e.wet[k].b.length c') := hgg 1 _ rfl
      clear hg hgg hx hx' hv hv' x1 x2 x3 x4 y1 y2 y3 y4
      by_cases r1 : d.wet[k].pos = e.wet[k].pos
      · have R1 : (d.wet[k].pos != e.wet[k].pos) = false := by rw [bne_eq_false_iff_eq]; exact r1
        by_cases r2 : d.wet[k].b = e.wet[k].b
        · have R2 := Lib.hid (decide_eq_true r2)
          have HT : Hid (d.wet.take (k + 1) = e.wet.take (k + 1)) := by
            show _ = _
            rw [List.take_succ_eq_append_getElem hlt, List.take_succ_eq_append_getElem hlt', hall.out]
            congr 2
            cases hx : d.wet[k]; cases hy : e.wet[k]; rw [hx, hy] at r1 r2; simp_all
          clear r1 r2 hall
          go_wp2_with (first 
    | ((with_reducible apply l_box (ty := 44) (y := (.tmp 0)) hS); (· (first | (go_simp; done) | (go_simp; with_reducible rfl))); (· exact rfl); intro w2 b2 hS1; replace hS := hS1; clear hS1)
    | ((with_reducible apply l_box (ty := 44) (y := (.tmp 1)) hS); (· (first | (go_simp; done) | (go_simp; with_reducible rfl))); (· exact rfl); intro w3 b3 hS1; replace hS := hS1; clear hS1)
    | ((with_reducible apply l_load hS); (· (first | exact Try.underlying3 | exact Try.underlying4 | exact Try.underlying22 | exact Try.underlying42)); (· exact rfl); (· exact rfl); (· (first | (apply Find.box; (· (repeat (first | exact List.Mem.head _ | apply List.Mem.tail))); rfl) | exact Find.mem (by assumption) | (refine Find.row (by (repeat (first | exact List.Mem.head _ | apply List.Mem.tail))) ?_; assumption))))
    | ((with_reducible apply g_load hS); (· (first | exact Try.underlying3 | exact Try.underlying4 | exact Try.underlying22 | exact Try.underlying42)); (· exact rfl); (· (first | rfl | (go_simp; done))); (· exact rfl); (· (first | (apply Find.box; (· (repeat (first | exact List.Mem.head _ | apply List.Mem.tail))); rfl) | exact Find.mem (by assumption) | (refine Find.row (by (repeat (first | exact List.Mem.head _ | apply List.Mem.tail))) ?_; assumption)))))
          replace hS := hS.drew
          refine startL (S := Sx _ [(b2, _), (b3, _)]) (by kernel_rfl) ((hS.sx0.cons hS (by (repeat (first | exact List.Mem.head _ | apply List.Mem.tail)))).cons hS (by (repeat (first | exact List.Mem.head _ | apply List.Mem.tail)))) (fun _ _ _ _ => trivial) (fun hHeld => ?_)
          focus (refine takeL 0 (v := ?_) rfl (by kernel_rfl) (by kernel_rfl) (by kernel_rfl) (fun _ _ _ h => h) (by assumption) (by first | rfl | (go_simp <;> fail)) ?_ ?_; rotate_left; focus (intro w hSw; clear hSw; go_simp; try with_reducible rfl))
          try simp only [Act.put, List.setIfInBounds_toArray, List.set_cons_zero, List.set_cons_succ]
          refine takeL 1 rfl (by kernel_rfl) (by kernel_rfl) (by kernel_rfl) (fun _ _ _ h => h) (by assumption) (by first | rfl | (go_simp <;> fail)) (yield_load rfl Try.underlying42 rfl rfl (by (first | (apply FindX.box; (· (repeat (first | exact List.Mem.head _ | apply List.Mem.tail))); rfl) | exact FindX.mem (by assumption)))) ?_
          try simp only [Act.put, List.setIfInBounds_toArray, List.set_cons_zero, List.set_cons_succ]
          focus (refine takeL 2 (v := ?_) rfl (by kernel_rfl) (by kernel_rfl) (by kernel_rfl) (fun _ _ _ h => h) (by assumption) (by first | rfl | (go_simp <;> fail)) ?_ ?_; rotate_left; focus (intro w hSw; clear hSw; go_simp; try with_reducible rfl))
          try simp only [Act.put, List.setIfInBounds_toArray, List.set_cons_zero, List.set_cons_succ]
          focus (refine takeL 3 (v := ?_) rfl (by kernel_rfl) (by kernel_rfl) (by kernel_rfl) (fun _ _ _ h => h) (by assumption) (by first | rfl | (go_simp <;> fail)) ?_ ?_; rotate_left; focus (intro w hSw; clear hSw; go_simp; try with_reducible rfl))
          try simp only [Act.put, List.setIfInBounds_toArray, List.set_cons_zero, List.set_cons_succ]
          focus (refine takeL 4 (v := ?_) rfl (by kernel_rfl) (by kernel_rfl) (by kernel_rfl) (fun _ _ _ h => h) (by assumption) (by first | rfl | (go_simp <;> fail)) ?_ ?_; rotate_left; focus (intro w hSw; clear hSw; go_simp; try with_reducible rfl))
          try simp only [Act.put, List.setIfInBounds_toArray, List.set_cons_zero, List.set_cons_succ]
          refine takeL 5 rfl (by kernel_rfl) (by kernel_rfl) (by kernel_rfl) (fun _ _ _ h => h) (by assumption) (by first | rfl | (go_simp <;> fail)) (yield_load rfl Try.underlying3 rfl rfl (by (first | (apply FindX.box; (· (repeat (first | exact List.Mem.head _ | apply List.Mem.tail))); rfl) | exact FindX.mem (by assumption)))) ?_
          try simp only [Act.put, List.setIfInBounds_toArray, List.set_cons_zero, List.set_cons_succ]
          focus (refine takeL 6 (v := ?_) rfl (by kernel_rfl) (by kernel_rfl) (by kernel_rfl) (fun _ _ _ h => h) (by assumption) (by first | rfl | (go_simp <;> fail)) ?_ ?_; rotate_left; focus (intro w hSw; clear hSw; go_simp; try with_reducible rfl))
          try simp only [Act.put, List.setIfInBounds_toArray, List.set_cons_zero, List.set_cons_succ]
          refine takeL 7 rfl (by kernel_rfl) (by kernel_rfl) (by kernel_rfl) (fun _ _ _ h => h) (by assumption) (by first | rfl | (go_simp <;> fail)) (yield_load rfl Try.underlying42 rfl rfl (by (first | (apply FindX.box; (· (repeat (first | exact List.Mem.head _ | apply List.Mem.tail))); rfl) | exact FindX.mem (by assumption)))) ?_
          try simp only [Act.put, List.setIfInBounds_toArray, List.set_cons_zero, List.set_cons_succ]
          focus (refine takeL 8 (v := ?_) rfl (by kernel_rfl) (by kernel_rfl) (by kernel_rfl) (fun _ _ _ h => h) (by assumption) (by first | rfl | (go_simp <;> fail)) ?_ ?_; rotate_left; focus (intro w hSw; clear hSw; go_simp; try with_reducible rfl))
          try simp only [Act.put, List.setIfInBounds_toArray, List.set_cons_zero, List.set_cons_succ]
          focus (refine takeL 9 (v := ?_) rfl (by kernel_rfl) (by kernel_rfl) (by kernel_rfl) (fun _ _ _ h => h) (by assumption) (by first | rfl | (go_simp <;> fail)) ?_ ?_; rotate_left; focus (intro w hSw; clear hSw; go_simp; try with_reducible rfl))
          try simp only [Act.put, List.setIfInBounds_toArray, List.set_cons_zero, List.set_cons_succ]
          focus (refine takeL 10 (v := ?_) rfl (by kernel_rfl) (by kernel_rfl) (by kernel_rfl) (fun _ _ _ h => h) (by assumption) (by first | rfl | (go_simp <;> fail)) ?_ ?_; rotate_left; focus (intro w hSw; clear hSw; go_simp; try with_reducible rfl))
          try simp only [Act.put, List.setIfInBounds_toArray, List.set_cons_zero, List.set_cons_succ]
          refine takeL 11 rfl (by kernel_rfl) (by kernel_rfl) (by kernel_rfl) (fun _ _ _ h => h) (by assumption) (by first | rfl | (go_simp <;> fail)) (yield_load rfl Try.underlying3 rfl rfl (by (first | (apply FindX.box; (· (repeat (first | exact List.Mem.head _ | apply List.Mem.tail))); rfl) | exact FindX.mem (by assumption)))) ?_
          try simp only [Act.put, List.setIfInBounds_toArray, List.set_cons_zero, List.set_cons_succ]
          focus (refine takeL 12 (v := ?_) rfl (by kernel_rfl) (by kernel_rfl) (by kernel_rfl) (fun _ _ _ h => h) (by assumption) (by first | rfl | (go_simp <;> fail)) ?_ ?_; rotate_left; focus (intro w hSw; clear hSw; go_simp; try with_reducible rfl))
          try simp only [Act.put, List.setIfInBounds_toArray, List.set_cons_zero, List.set_cons_succ]
          focus (refine takeL 13 (v := ?_) rfl (by kernel_rfl) (by kernel_rfl) (by kernel_rfl) (fun _ _ _ h => h) (by assumption) (by first | rfl | (go_simp <;> fail)) ?_ ?_; rotate_left; focus (intro w hSw; clear hSw; go_simp; try with_reducible rfl))
          try simp only [Act.put, List.setIfInBounds_toArray, List.set_cons_zero, List.set_cons_succ]
          first | (focus (refine takeL 14 (v := ?_) rfl (by kernel_rfl) (by kernel_rfl) (by kernel_rfl) (fun _ _ _ h => h) (by assumption) ?_ ?_ ?_; rotate_left; (focus (first | rfl | (go_simp <;> fail))); (focus (intro w hSw; clear hSw; go_simp; try with_reducible rfl)))) | (refine skipL 14 rfl (by kernel_rfl) (by kernel_rfl) (by kernel_rfl) (fun _ _ _ h => h) (by assumption) ?_ ?_; (focus (first | rfl | (go_simp <;> fail))))
          try simp only [Act.put, List.setIfInBounds_toArray, List.set_cons_zero, List.set_cons_succ]
          first | (focus (refine' takeL 15 rfl (by kernel_rfl) (by kernel_rfl) (by kernel_rfl) (fun _ _ _ h => h) (by assumption) ?_ ?_ ?_; rotate_left; (focus (first | rfl | (go_simp <;> fail))); (focus (intro w hSw; refine' yield_load rfl Try.underlying42 rfl rfl ?_ w hSw; (first | (apply FindX.box; (· (repeat (first | exact List.Mem.head _ | apply List.Mem.tail))); rfl) | exact FindX.mem (by assumption)))))) | (refine skipL 15 rfl (by kernel_rfl) (by kernel_rfl) (by kernel_rfl) (fun _ _ _ h => h) (by assumption) ?_ ?_; (focus (first | rfl | (go_simp <;> fail))))
          try simp only [Act.put, List.setIfInBounds_toArray, List.set_cons_zero, List.set_cons_succ]
          first | (focus (refine takeL 16 (v := ?_) rfl (by kernel_rfl) (by kernel_rfl) (by kernel_rfl) (fun _ _ _ h => h) (by assumption) ?_ ?_ ?_; rotate_left; (focus (first | rfl | (go_simp <;> fail))); (focus (intro w hSw; clear hSw; go_simp; try with_reducible rfl)))) | (refine skipL 16 rfl (by kernel_rfl) (by kernel_rfl) (by kernel_rfl) (fun _ _ _ h => h) (by assumption) ?_ ?_; (focus (first | rfl | (go_simp <;> fail))))
          try simp only [Act.put, List.setIfInBounds_toArray, List.set_cons_zero, List.set_cons_succ]
          first | (focus (refine takeL 17 (v := ?_) rfl (by kernel_rfl) (by kernel_rfl) (by kernel_rfl) (fun _ _ _ h => h) (by assumption) ?_ ?_ ?_; rotate_left; (focus (first | rfl | (go_simp <;> fail))); (focus (intro w hSw; clear hSw; go_simp; try with_reducible rfl)))) | (refine skipL 17 rfl (by kernel_rfl) (by kernel_rfl) (by kernel_rfl) (fun _ _ _ h => h) (by assumption) ?_ ?_; (focus (first | rfl | (go_simp <;> fail))))
          try simp only [Act.put, List.setIfInBounds_toArray, List.set_cons_zero, List.set_cons_succ]
          first | (focus (refine takeL 18 (v := ?_) rfl (by kernel_rfl) (by kernel_rfl) (by kernel_rfl) (fun _ _ _ h => h) (by assumption) ?_ ?_ ?_; rotate_left; (focus (first | rfl | (go_simp <;> fail))); (focus (intro w hSw; clear hSw; go_simp; try with_reducible rfl)))) | (refine skipL 18 rfl (by kernel_rfl) (by kernel_rfl) (by kernel_rfl) (fun _ _ _ h => h) (by assumption) ?_ ?_; (focus (first | rfl | (go_simp <;> fail))))
          try simp only [Act.put, List.setIfInBounds_toArray, List.set_cons_zero, List.set_cons_succ]
          first | (focus (refine' takeL 19 rfl (by kernel_rfl) (by kernel_rfl) (by kernel_rfl) (fun _ _ _ h => h) (by assumption) ?_ ?_ ?_; rotate_left; (focus (first | rfl | (go_simp <;> fail))); (focus (intro w hSw; refine' yield_load rfl Try.underlying22 rfl rfl ?_ w hSw; (first | (apply FindX.box; (· (repeat (first | exact List.Mem.head _ | apply List.Mem.tail))); rfl) | exact FindX.mem (by assumption)))))) | (refine skipL 19 rfl (by kernel_rfl) (by kernel_rfl) (by kernel_rfl) (fun _ _ _ h => h) (by assumption) ?_ ?_; (focus (first | rfl | (go_simp <;> fail))))
          try simp only [Act.put, List.setIfInBounds_toArray, List.set_cons_zero, List.set_cons_succ]
          first | (focus (refine takeL 20 (v := ?_) rfl (by kernel_rfl) (by kernel_rfl) (by kernel_rfl) (fun _ _ _ h => h) (by assumption) ?_ ?_ ?_; rotate_left; (focus (first | rfl | (go_simp <;> fail))); (focus (intro w hSw; clear hSw; go_simp; try with_reducible rfl)))) | (refine skipL 20 rfl (by kernel_rfl) (by kernel_rfl) (by kernel_rfl) (fun _ _ _ h => h) (by assumption) ?_ ?_; (focus (first | rfl | (go_simp <;> fail))))
          try simp only [Act.put, List.setIfInBounds_toArray, List.set_cons_zero, List.set_cons_succ]
          first | (focus (refine' takeL 21 rfl (by kernel_rfl) (by kernel_rfl) (by kernel_rfl) (fun _ _ _ h => h) (by assumption) ?_ ?_ ?_; rotate_left; (focus (first | rfl | (go_simp <;> fail))); (focus (intro w hSw; refine' yield_load rfl Try.underlying42 rfl rfl ?_ w hSw; (first | (apply FindX.box; (· (repeat (first | exact List.Mem.head _ | apply List.Mem.tail))); rfl) | exact FindX.mem (by assumption)))))) | (refine skipL 21 rfl (by kernel_rfl) (by kernel_rfl) (by kernel_rfl) (fun _ _ _ h => h) (by assumption) ?_ ?_; (focus (first | rfl | (go_simp <;> fail))))
          try simp only [Act.put, List.setIfInBounds_toArray, List.set_cons_zero, List.set_cons_succ]
          first | (focus (refine takeL 22 (v := ?_) rfl (by kernel_rfl) (by kernel_rfl) (by kernel_rfl) (fun _ _ _ h => h) (by assumption) ?_ ?_ ?_; rotate_left; (focus (first | rfl | (go_simp <;> fail))); (focus (intro w hSw; clear hSw; go_simp; try with_reducible rfl)))) | (refine skipL 22 rfl (by kernel_rfl) (by kernel_rfl) (by kernel_rfl) (fun _ _ _ h => h) (by assumption) ?_ ?_; (focus (first | rfl | (go_simp <;> fail))))
          try simp only [Act.put, List.setIfInBounds_toArray, List.set_cons_zero, List.set_cons_succ]
          first | (focus (refine takeL 23 (v := ?_) rfl (by kernel_rfl) (by kernel_rfl) (by kernel_rfl) (fun _ _ _ h => h) (by assumption) ?_ ?_ ?_; rotate_left; (focus (first | rfl | (go_simp <;> fail))); (focus (intro w hSw; clear hSw; go_simp; try with_reducible rfl)))) | (refine skipL 23 rfl (by kernel_rfl) (by kernel_rfl) (by kernel_rfl) (fun _ _ _ h => h) (by assumption) ?_ ?_; (focus (first | rfl | (go_simp <;> fail))))
          try simp only [Act.put, List.setIfInBounds_toArray, List.set_cons_zero, List.set_cons_succ]
          first | (focus (refine takeL 24 (v := ?_) rfl (by kernel_rfl) (by kernel_rfl) (by kernel_rfl) (fun _ _ _ h => h) (by assumption) ?_ ?_ ?_; rotate_left; (focus (first | rfl | (go_simp <;> fail))); (focus (intro w hSw; clear hSw; go_simp; try with_reducible rfl)))) | (refine skipL 24 rfl (by kernel_rfl) (by kernel_rfl) (by kernel_rfl) (fun _ _ _ h => h) (by assumption) ?_ ?_; (focus (first | rfl | (go_simp <;> fail))))
          try simp only [Act.put, List.setIfInBounds_toArray, List.set_cons_zero, List.set_cons_succ]
          first | (focus (refine' takeL 25 rfl (by kernel_rfl) (by kernel_rfl) (by kernel_rfl) (fun _ _ _ h => h) (by assumption) ?_ ?_ ?_; rotate_left; (focus (first | rfl | (go_simp <;> fail))); (focus (intro w hSw; refine' yield_load rfl Try.underlying22 rfl rfl ?_ w hSw; (first | (apply FindX.box; (· (repeat (first | exact List.Mem.head _ | apply List.Mem.tail))); rfl) | exact FindX.mem (by assumption)))))) | (refine skipL 25 rfl (by kernel_rfl) (by kernel_rfl) (by kernel_rfl) (fun _ _ _ h => h) (by assumption) ?_ ?_; (focus (first | rfl | (go_simp <;> fail))))
          try simp only [Act.put, List.setIfInBounds_toArray, List.set_cons_zero, List.set_cons_succ]
          refine wpAnyH_ready (rs := [26]) (by kernel_rfl) (by simp) ?_
          refine consL 26 rfl (fun K hK => ?_) AllReadyH.nil
          first | (refine ifYes ?_ ?_; (focus rfl); go_simp; refine (same_c _ _ hS.inw _ _ _ _ HV.out HV'.out).mono ?_; rintro e' w67 ⟨rfl, rfl⟩; rw [R2.out]; go_wp2_with fail) | (refine ifNo ?_ ?_; focus (first | exact Bool.false_ne_true | (go_simp <;> fail)))
          refine hK.out _ _ (by first | exact ((hS.sx0.cons hS (by (repeat (first | exact List.Mem.head _ | apply List.Mem.tail)))).cons hS (by (repeat (first | exact List.Mem.head _ | apply List.Mem.tail)))) | exact Sx.le (by assumption) ((hS.sx0.cons hS (by (repeat (first | exact List.Mem.head _ | apply List.Mem.tail)))).cons hS (by (repeat (first | exact List.Mem.head _ | apply List.Mem.tail))))) (fun hHeld => ?_)
          clear hK K
          try simp only [Act.put, List.setIfInBounds_toArray, List.set_cons_zero, List.set_cons_succ]
          first | (focus (refine takeL 27 (v := ?_) rfl (by kernel_rfl) (by kernel_rfl) (by kernel_rfl) (fun _ _ _ h => h) (by assumption) ?_ ?_ ?_; rotate_left; (focus (first | rfl | (go_simp <;> fail))); (focus (intro w hSw; clear hSw; go_simp; try with_reducible rfl)))) | (refine skipL 27 rfl (by kernel_rfl) (by kernel_rfl) (by kernel_rfl) (fun _ _ _ h => h) (by assumption) ?_ ?_; (focus (first | rfl | (go_simp <;> fail))))
          try simp only [Act.put, List.setIfInBounds_toArray, List.set_cons_zero, List.set_cons_succ]
          focus (refine takeL 28 (v := ?_) rfl (by kernel_rfl) (by kernel_rfl) (by kernel_rfl) (fun _ _ _ h => h) (by assumption) (by first | rfl | (go_simp <;> fail)) ?_ ?_; rotate_left; focus (intro w hSw; clear hSw; go_simp; try with_reducible rfl))
          try simp only [Act.put, List.setIfInBounds_toArray, List.set_cons_zero, List.set_cons_succ]
          refine wpAnyH_done (by kernel_rfl) ?_ _
          refine NoPanic.normal ?_
          go_wp2_with (first 
    | ((with_reducible apply l_box (ty := 44) (y := (.tmp 0)) hS); (· (first | (go_simp; done) | (go_simp; with_reducible rfl))); (· exact rfl); intro w2 b2 hS1; replace hS := hS1; clear hS1)
    | ((with_reducible apply l_box (ty := 44) (y := (.tmp 1)) hS); (· (first | (go_simp; done) | (go_simp; with_reducible rfl))); (· exact rfl); intro w3 b3 hS1; replace hS := hS1; clear hS1)
    | ((with_reducible apply l_load hS); (· (first | exact Try.underlying3 | exact Try.underlying4 | exact Try.underlying22 | exact Try.underlying42)); (· exact rfl); (· exact rfl); (· (first | (apply Find.box; (· (repeat (first | exact List.Mem.head _ | apply List.Mem.tail))); rfl) | exact Find.mem (by assumption) | (refine Find.row (by (repeat (first | exact List.Mem.head _ | apply List.Mem.tail))) ?_; assumption))))
    | ((with_reducible apply g_load hS); (· (first | exact Try.underlying3 | exact Try.underlying4 | exact Try.underlying22 | exact Try.underlying42)); (· exact rfl); (· (first | rfl | (go_simp; done))); (· exact rfl); (· (first | (apply Find.box; (· (repeat (first | exact List.Mem.head _ | apply List.Mem.tail))); rfl) | exact Find.mem (by assumption) | (refine Find.row (by (repeat (first | exact List.Mem.head _ | apply List.Mem.tail))) ?_; assumption)))))
          go_roundw
          case rel => exact ⟨k + 1, hlt, by go_num, HT, hS⟩
          case measure => simp [intOf]; omega
        · have R2 := Lib.hid (decide_eq_false r2)
          have D := Lib.hid (sameD_no (fun h : d = e => r2 (by subst h; rfl)))
          clear r1 r2 hall
          go_wp2_with (first 
    | ((with_reducible apply l_box (ty := 44) (y := (.tmp 0)) hS); (· (first | (go_simp; done) | (go_simp; with_reducible rfl))); (· exact rfl); intro w2 b2 hS1; replace hS := hS1; clear hS1)
    | ((with_reducible apply l_box (ty := 44) (y := (.tmp 1)) hS); (· (first | (go_simp; done) | (go_simp; with_reducible rfl))); (· exact rfl); intro w3 b3 hS1; replace hS := hS1; clear hS1)
    | ((with_reducible apply l_load hS); (· (first | exact Try.underlying3 | exact Try.underlying4 | exact Try.underlying22 | exact Try.underlying42)); (· exact rfl); (· exact rfl); (· (first | (apply Find.box; (· (repeat (first | exact List.Mem.head _ | apply List.Mem.tail))); rfl) | exact Find.mem (by assumption) | (refine Find.row (by (repeat (first | exact List.Mem.head _ | apply List.Mem.tail))) ?_; assumption))))
    | ((with_reducible apply g_load hS); (· (first | exact Try.underlying3 | exact Try.underlying4 | exact Try.underlying22 | exact Try.underlying42)); (· exact rfl); (· (first | rfl | (go_simp; done))); (· exact rfl); (· (first | (apply Find.box; (· (repeat (first | exact List.Mem.head _ | apply List.Mem.tail))); rfl) | exact Find.mem (by assumption) | (refine Find.row (by (repeat (first | exact List.Mem.head _ | apply List.Mem.tail))) ?_; assumption)))))
          replace hS := hS.drew
          refine startL (S := Sx _ [(b2, _), (b3, _)]) (by kernel_rfl) ((hS.sx0.cons hS (by (repeat (first | exact List.Mem.head _ | apply List.Mem.tail)))).cons hS (by (repeat (first | exact List.Mem.head _ | apply List.Mem.tail)))) (fun _ _ _ _ => trivial) (fun hHeld => ?_)
          focus (refine takeL 0 (v := ?_) rfl (by kernel_rfl) (by kernel_rfl) (by kernel_rfl) (fun _ _ _ h => h) (by assumption) (by first | rfl | (go_simp <;> fail)) ?_ ?_; rotate_left; focus (intro w hSw; clear hSw; go_simp; try with_reducible rfl))
          try simp only [Act.put, List.setIfInBounds_toArray, List.set_cons_zero, List.set_cons_succ]
          refine takeL 1 rfl (by kernel_rfl) (by kernel_rfl) (by kernel_rfl) (fun _ _ _ h => h) (by assumption) (by first | rfl | (go_simp <;> fail)) (yield_load rfl Try.underlying42 rfl rfl (by (first | (apply FindX.box; (· (repeat (first | exact List.Mem.head _ | apply List.Mem.tail))); rfl) | exact FindX.mem (by assumption)))) ?_
          try simp only [Act.put, List.setIfInBounds_toArray, List.set_cons_zero, List.set_cons_succ]
          focus (refine takeL 2 (v := ?_) rfl (by kernel_rfl) (by kernel_rfl) (by kernel_rfl) (fun _ _ _ h => h) (by assumption) (by first | rfl | (go_simp <;> fail)) ?_ ?_; rotate_left; focus (intro w hSw; clear hSw; go_simp; try with_reducible rfl))
          try simp only [Act.put, List.setIfInBounds_toArray, List.set_cons_zero, List.set_cons_succ]
          focus (refine takeL 3 (v := ?_) rfl (by kernel_rfl) (by kernel_rfl) (by kernel_rfl) (fun _ _ _ h => h) (by assumption) (by first | rfl | (go_simp <;> fail)) ?_ ?_; rotate_left; focus (intro w hSw; clear hSw; go_simp; try with_reducible rfl))
          try simp only [Act.put, List.setIfInBounds_toArray, List.set_cons_zero, List.set_cons_succ]
          focus (refine takeL 4 (v := ?_) rfl (by kernel_rfl) (by kernel_rfl) (by kernel_rfl) (fun _ _ _ h => h) (by assumption) (by first | rfl | (go_simp <;> fail)) ?_ ?_; rotate_left; focus (intro w hSw; clear hSw; go_simp; try with_reducible rfl))
          try simp only [Act.put, List.setIfInBounds_toArray, List.set_cons_zero, List.set_cons_succ]
          refine takeL 5 rfl (by kernel_rfl) (by kernel_rfl) (by kernel_rfl) (fun _ _ _ h => h) (by assumption) (by first | rfl | (go_simp <;> fail)) (yield_load rfl Try.underlying3 rfl rfl (by (first | (apply FindX.box; (· (repeat (first | exact List.Mem.head _ | apply List.Mem.tail))); rfl) | exact FindX.mem (by assumption)))) ?_
          try simp only [Act.put, List.setIfInBounds_toArray, List.set_cons_zero, List.set_cons_succ]
          focus (refine takeL 6 (v := ?_) rfl (by kernel_rfl) (by kernel_rfl) (by kernel_rfl) (fun _ _ _ h => h) (by assumption) (by first | rfl | (go_simp <;> fail)) ?_ ?_; rotate_left; focus (intro w hSw; clear hSw; go_simp; try with_reducible rfl))
          try simp only [Act.put, List.setIfInBounds_toArray, List.set_cons_zero, List.set_cons_succ]
          refine takeL 7 rfl (by kernel_rfl) (by kernel_rfl) (by kernel_rfl) (fun _ _ _ h => h) (by assumption) (by first | rfl | (go_simp <;> fail)) (yield_load rfl Try.underlying42 rfl rfl (by (first | (apply FindX.box; (· (repeat (first | exact List.Mem.head _ | apply List.Mem.tail))); rfl) | exact FindX.mem (by assumption)))) ?_
          try simp only [Act.put, List.setIfInBounds_toArray, List.set_cons_zero, List.set_cons_succ]
          focus (refine takeL 8 (v := ?_) rfl (by kernel_rfl) (by kernel_rfl) (by kernel_rfl) (fun _ _ _ h => h) (by assumption) (by first | rfl | (go_simp <;> fail)) ?_ ?_; rotate_left; focus (intro w hSw; clear hSw; go_simp; try with_reducible rfl))
          try simp only [Act.put, List.setIfInBounds_toArray, List.set_cons_zero, List.set_cons_succ]
          focus (refine takeL 9 (v := ?_) rfl (by kernel_rfl) (by kernel_rfl) (by kernel_rfl) (fun _ _ _ h => h) (by assumption) (by first | rfl | (go_simp <;> fail)) ?_ ?_; rotate_left; focus (intro w hSw; clear hSw; go_simp; try with_reducible rfl))
          try simp only [Act.put, List.setIfInBounds_toArray, List.set_cons_zero, List.set_cons_succ]
          focus (refine takeL 10 (v := ?_) rfl (by kernel_rfl) (by kernel_rfl) (by kernel_rfl) (fun _ _ _ h => h) (by assumption) (by first | rfl | (go_simp <;> fail)) ?_ ?_; rotate_left; focus (intro w hSw; clear hSw; go_simp; try with_reducible rfl))
          try simp only [Act.put, List.setIfInBounds_toArray, List.set_cons_zero, List.set_cons_succ]
          refine takeL 11 rfl (by kernel_rfl) (by kernel_rfl) (by kernel_rfl) (fun _ _ _ h => h) (by assumption) (by first | rfl | (go_simp <;> fail)) (yield_load rfl Try.underlying3 rfl rfl (by (first | (apply FindX.box; (· (repeat (first | exact List.Mem.head _ | apply List.Mem.tail))); rfl) | exact FindX.mem (by assumption)))) ?_
          try simp only [Act.put, List.setIfInBounds_toArray, List.set_cons_zero, List.set_cons_succ]
          focus (refine takeL 12 (v := ?_) rfl (by kernel_rfl) (by kernel_rfl) (by kernel_rfl) (fun _ _ _ h => h) (by assumption) (by first | rfl | (go_simp <;> fail)) ?_ ?_; rotate_left; focus (intro w hSw; clear hSw; go_simp; try with_reducible rfl))
          try simp only [Act.put, List.setIfInBounds_toArray, List.set_cons_zero, List.set_cons_succ]
          focus (refine takeL 13 (v := ?_) rfl (by kernel_rfl) (by kernel_rfl) (by kernel_rfl) (fun _ _ _ h => h) (by assumption) (by first | rfl | (go_simp <;> fail)) ?_ ?_; rotate_left; focus (intro w hSw; clear hSw; go_simp; try with_reducible rfl))
          try simp only [Act.put, List.setIfInBounds_toArray, List.set_cons_zero, List.set_cons_succ]
          first | (focus (refine takeL 14 (v := ?_) rfl (by kernel_rfl) (by kernel_rfl) (by kernel_rfl) (fun _ _ _ h => h) (by assumption) ?_ ?_ ?_; rotate_left; (focus (first | rfl | (go_simp <;> fail))); (focus (intro w hSw; clear hSw; go_simp; try with_reducible rfl)))) | (refine skipL 14 rfl (by kernel_rfl) (by kernel_rfl) (by kernel_rfl) (fun _ _ _ h => h) (by assumption) ?_ ?_; (focus (first | rfl | (go_simp <;> fail))))
          try simp only [Act.put, List.setIfInBounds_toArray, List.set_cons_zero, List.set_cons_succ]
          first | (focus (refine' takeL 15 rfl (by kernel_rfl) (by kernel_rfl) (by kernel_rfl) (fun _ _ _ h => h) (by assumption) ?_ ?_ ?_; rotate_left; (focus (first | rfl | (go_simp <;> fail))); (focus (intro w hSw; refine' yield_load rfl Try.underlying42 rfl rfl ?_ w hSw; (first | (apply FindX.box; (· (repeat (first | exact List.Mem.head _ | apply List.Mem.tail))); rfl) | exact FindX.mem (by assumption)))))) | (refine skipL 15 rfl (by kernel_rfl) (by kernel_rfl) (by kernel_rfl) (fun _ _ _ h => h) (by assumption) ?_ ?_; (focus (first | rfl | (go_simp <;> fail))))
          try simp only [Act.put, List.setIfInBounds_toArray, List.set_cons_zero, List.set_cons_succ]
          first | (focus (refine takeL 16 (v := ?_) rfl (by kernel_rfl) (by kernel_rfl) (by kernel_rfl) (fun _ _ _ h => h) (by assumption) ?_ ?_ ?_; rotate_left; (focus (first | rfl | (go_simp <;> fail))); (focus (intro w hSw; clear hSw; go_simp; try with_reducible rfl)))) | (refine skipL 16 rfl (by kernel_rfl) (by kernel_rfl) (by kernel_rfl) (fun _ _ _ h => h) (by assumption) ?_ ?_; (focus (first | rfl | (go_simp <;> fail))))
          try simp only [Act.put, List.setIfInBounds_toArray, List.set_cons_zero, List.set_cons_succ]
          first | (focus (refine takeL 17 (v := ?_) rfl (by kernel_rfl) (by kernel_rfl) (by kernel_rfl) (fun _ _ _ h => h) (by assumption) ?_ ?_ ?_; rotate_left; (focus (first | rfl | (go_simp <;> fail))); (focus (intro w hSw; clear hSw; go_simp; try with_reducible rfl)))) | (refine skipL 17 rfl (by kernel_rfl) (by kernel_rfl) (by kernel_rfl) (fun _ _ _ h => h) (by assumption) ?_ ?_; (focus (first | rfl | (go_simp <;> fail))))
          try simp only [Act.put, List.setIfInBounds_toArray, List.set_cons_zero, List.set_cons_succ]
          first | (focus (refine takeL 18 (v := ?_) rfl (by kernel_rfl) (by kernel_rfl) (by kernel_rfl) (fun _ _ _ h => h) (by assumption) ?_ ?_ ?_; rotate_left; (focus (first | rfl | (go_simp <;> fail))); (focus (intro w hSw; clear hSw; go_simp; try with_reducible rfl)))) | (refine skipL 18 rfl (by kernel_rfl) (by kernel_rfl) (by kernel_rfl) (fun _ _ _ h => h) (by assumption) ?_ ?_; (focus (first | rfl | (go_simp <;> fail))))
          try simp only [Act.put, List.setIfInBounds_toArray, List.set_cons_zero, List.set_cons_succ]
          first | (focus (refine' takeL 19 rfl (by kernel_rfl) (by kernel_rfl) (by kernel_rfl) (fun _ _ _ h => h) (by assumption) ?_ ?_ ?_; rotate_left; (focus (first | rfl | (go_simp <;> fail))); (focus (intro w hSw; refine' yield_load rfl Try.underlying22 rfl rfl ?_ w hSw; (first | (apply FindX.box; (· (repeat (first | exact List.Mem.head _ | apply List.Mem.tail))); rfl) | exact FindX.mem (by assumption)))))) | (refine skipL 19 rfl (by kernel_rfl) (by kernel_rfl) (by kernel_rfl) (fun _ _ _ h => h) (by assumption) ?_ ?_; (focus (first | rfl | (go_simp <;> fail))))
          try simp only [Act.put, List.setIfInBounds_toArray, List.set_cons_zero, List.set_cons_succ]
          first | (focus (refine takeL 20 (v := ?_) rfl (by kernel_rfl) (by kernel_rfl) (by kernel_rfl) (fun _ _ _ h => h) (by assumption) ?_ ?_ ?_; rotate_left; (focus (first | rfl | (go_simp <;> fail))); (focus (intro w hSw; clear hSw; go_simp; try with_reducible rfl)))) | (refine skipL 20 rfl (by kernel_rfl) (by kernel_rfl) (by kernel_rfl) (fun _ _ _ h => h) (by assumption) ?_ ?_; (focus (first | rfl | (go_simp <;> fail))))
          try simp only [Act.put, List.setIfInBounds_toArray, List.set_cons_zero, List.set_cons_succ]
          first | (focus (refine' takeL 21 rfl (by kernel_rfl) (by kernel_rfl) (by kernel_rfl) (fun _ _ _ h => h) (by assumption) ?_ ?_ ?_; rotate_left; (focus (first | rfl | (go_simp <;> fail))); (focus (intro w hSw; refine' yield_load rfl Try.underlying42 rfl rfl ?_ w hSw; (first | (apply FindX.box; (· (repeat (first | exact List.Mem.head _ | apply List.Mem.tail))); rfl) | exact FindX.mem (by assumption)))))) | (refine skipL 21 rfl (by kernel_rfl) (by kernel_rfl) (by kernel_rfl) (fun _ _ _ h => h) (by assumption) ?_ ?_; (focus (first | rfl | (go_simp <;> fail))))
          try simp only [Act.put, List.setIfInBounds_toArray, List.set_cons_zero, List.set_cons_succ]
          first | (focus (refine takeL 22 (v := ?_) rfl (by kernel_rfl) (by kernel_rfl) (by kernel_rfl) (fun _ _ _ h => h) (by assumption) ?_ ?_ ?_; rotate_left; (focus (first | rfl | (go_simp <;> fail))); (focus (intro w hSw; clear hSw; go_simp; try with_reducible rfl)))) | (refine skipL 22 rfl (by kernel_rfl) (by kernel_rfl) (by kernel_rfl) (fun _ _ _ h => h) (by assumption) ?_ ?_; (focus (first | rfl | (go_simp <;> fail))))
          try simp only [Act.put, List.setIfInBounds_toArray, List.set_cons_zero, List.set_cons_succ]
          first | (focus (refine takeL 23 (v := ?_) rfl (by kernel_rfl) (by kernel_rfl) (by kernel_rfl) (fun _ _ _ h => h) (by assumption) ?_ ?_ ?_; rotate_left; (focus (first | rfl | (go_simp <;> fail))); (focus (intro w hSw; clear hSw; go_simp; try with_reducible rfl)))) | (refine skipL 23 rfl (by kernel_rfl) (by kernel_rfl) (by kernel_rfl) (fun _ _ _ h => h) (by assumption) ?_ ?_; (focus (first | rfl | (go_simp <;> fail))))
          try simp only [Act.put, List.setIfInBounds_toArray, List.set_cons_zero, List.set_cons_succ]
          first | (focus (refine takeL 24 (v := ?_) rfl (by kernel_rfl) (by kernel_rfl) (by kernel_rfl) (fun _ _ _ h => h) (by assumption) ?_ ?_ ?_; rotate_left; (focus (first | rfl | (go_simp <;> fail))); (focus (intro w hSw; clear hSw; go_simp; try with_reducible rfl)))) | (refine skipL 24 rfl (by kernel_rfl) (by kernel_rfl) (by kernel_rfl) (fun _ _ _ h => h) (by assumption) ?_ ?_; (focus (first | rfl | (go_simp <;> fail))))
          try simp only [Act.put, List.setIfInBounds_toArray, List.set_cons_zero, List.set_cons_succ]
          first | (focus (refine' takeL 25 rfl (by kernel_rfl) (by kernel_rfl) (by kernel_rfl) (fun _ _ _ h => h) (by assumption) ?_ ?_ ?_; rotate_left; (focus (first | rfl | (go_simp <;> fail))); (focus (intro w hSw; refine' yield_load rfl Try.underlying22 rfl rfl ?_ w hSw; (first | (apply FindX.box; (· (repeat (first | exact List.Mem.head _ | apply List.Mem.tail))); rfl) | exact FindX.mem (by assumption)))))) | (refine skipL 25 rfl (by kernel_rfl) (by kernel_rfl) (by kernel_rfl) (fun _ _ _ h => h) (by assumption) ?_ ?_; (focus (first | rfl | (go_simp <;> fail))))
          try simp only [Act.put, List.setIfInBounds_toArray, List.set_cons_zero, List.set_cons_succ]
          refine wpAnyH_ready (rs := [26]) (by kernel_rfl) (by simp) ?_
          refine consL 26 rfl (fun K hK => ?_) AllReadyH.nil
          first | (refine ifYes ?_ ?_; (focus rfl); go_simp; refine (same_c _ _ hS.inw _ _ _ _ HV.out HV'.out).mono ?_; rintro e' w67 ⟨rfl, rfl⟩; rw [R2.out]; go_wp2_with fail) | (refine ifNo ?_ ?_; focus (first | exact Bool.false_ne_true | (go_simp <;> fail)))
          refine hK.out _ _ (by first | exact ((hS.sx0.cons hS (by (repeat (first | exact List.Mem.head _ | apply List.Mem.tail)))).cons hS (by (repeat (first | exact List.Mem.head _ | apply List.Mem.tail)))) | exact Sx.le (by assumption) ((hS.sx0.cons hS (by (repeat (first | exact List.Mem.head _ | apply List.Mem.tail)))).cons hS (by (repeat (first | exact List.Mem.head _ | apply List.Mem.tail))))) (fun hHeld => ?_)
          clear hK K
          try simp only [Act.put, List.setIfInBounds_toArray, List.set_cons_zero, List.set_cons_succ]
          first | (focus (refine takeL 27 (v := ?_) rfl (by kernel_rfl) (by kernel_rfl) (by kernel_rfl) (fun _ _ _ h => h) (by assumption) ?_ ?_ ?_; rotate_left; (focus (first | rfl | (go_simp <;> fail))); (focus (intro w hSw; clear hSw; go_simp; try with_reducible rfl)))) | (refine skipL 27 rfl (by kernel_rfl) (by kernel_rfl) (by kernel_rfl) (fun _ _ _ h => h) (by assumption) ?_ ?_; (focus (first | rfl | (go_simp <;> fail))))
          try simp only [Act.put, List.setIfInBounds_toArray, List.set_cons_zero, List.set_cons_succ]
          focus (refine takeL 28 (v := ?_) rfl (by kernel_rfl) (by kernel_rfl) (by kernel_rfl) (fun _ _ _ h => h) (by assumption) (by first | rfl | (go_simp <;> fail)) ?_ ?_; rotate_left; focus (intro w hSw; clear hSw; go_simp; try with_reducible rfl))
          try simp only [Act.put, List.setIfInBounds_toArray, List.set_cons_zero, List.set_cons_succ]
          refine wpAnyH_done (by kernel_rfl) ?_ _
          refine NoPanic.normal ?_
          go_wp2_with (first 
    | ((with_reducible apply l_box (ty := 44) (y := (.tmp 0)) hS); (· (first | (go_simp; done) | (go_simp; with_reducible rfl))); (· exact rfl); intro w2 b2 hS1; replace hS := hS1; clear hS1)
    | ((with_reducible apply l_box (ty := 44) (y := (.tmp 1)) hS); (· (first | (go_simp; done) | (go_simp; with_reducible rfl))); (· exact rfl); intro w3 b3 hS1; replace hS := hS1; clear hS1)
    | ((with_reducible apply l_load hS); (· (first | exact Try.underlying3 | exact Try.underlying4 | exact Try.underlying22 | exact Try.underlying42)); (· exact rfl); (· exact rfl); (· (first | (apply Find.box; (· (repeat (first | exact List.Mem.head _ | apply List.Mem.tail))); rfl) | exact Find.mem (by assumption) | (refine Find.row (by (repeat (first | exact List.Mem.head _ | apply List.Mem.tail))) ?_; assumption))))
    | ((with_reducible apply g_load hS); (· (first | exact Try.underlying3 | exact Try.underlying4 | exact Try.underlying22 | exact Try.underlying42)); (· exact rfl); (· (first | rfl | (go_simp; done))); (· exact rfl); (· (first | (apply Find.box; (· (repeat (first | exact List.Mem.head _ | apply List.Mem.tail))); rfl) | exact Find.mem (by assumption) | (refine Find.row (by (repeat (first | exact List.Mem.head _ | apply List.Mem.tail))) ?_; assumption)))))
          go_ret
          exact ⟨_, m, rfl, by rw [D.out] <;> rfl, hS.done⟩
      · have R1 : (d.wet[k].pos != e.wet[k].pos) = true := by rw [bne_iff_ne]; exact r1
        have D := Lib.hid (sameD_no (fun h : d = e => r1 (by subst h; rfl)))
        clear r1 hall
        go_wp2_with (first 
    | ((with_reducible apply l_box (ty := 44) (y := (.tmp 0)) hS); (· (first | (go_simp; done) | (go_simp; with_reducible rfl))); (· exact rfl); intro w2 b2 hS1; replace hS := hS1; clear hS1)
    | ((with_reducible apply l_box (ty := 44) (y := (.tmp 1)) hS); (· (first | (go_simp; done) | (go_simp; with_reducible rfl))); (· exact rfl); intro w3 b3 hS1; replace hS := hS1; clear hS1)
    | ((with_reducible apply l_load hS); (· (first | exact Try.underlying3 | exact Try.underlying4 | exact Try.underlying22 | exact Try.underlying42)); (· exact rfl); (· exact rfl); (· (first | (apply Find.box; (· (repeat (first | exact List.Mem.head _ | apply List.Mem.tail))); rfl) | exact Find.mem (by assumption) | (refine Find.row (by (repeat (first | exact List.Mem.head _ | apply List.Mem.tail))) ?_; assumption))))
    | ((with_reducible apply g_load hS); (· (first | exact Try.underlying3 | exact Try.underlying4 | exact Try.underlying22 | exact Try.underlying42)); (· exact rfl); (· (first | rfl | (go_simp; done))); (· exact rfl); (· (first | (apply Find.box; (· (repeat (first | exact List.Mem.head _ | apply List.Mem.tail))); rfl) | exact Find.mem (by assumption) | (refine Find.row (by (repeat (first | exact List.Mem.head _ | apply List.Mem.tail))) ?_; assumption)))))
        replace hS := hS.drew
        refine startL (S := Sx _ [(b2, _), (b3, _)]) (by kernel_rfl) ((hS.sx0.cons hS (by (repeat (first | exact List.Mem.head _ | apply List.Mem.tail)))).cons hS (by (repeat (first | exact List.Mem.head _ | apply List.Mem.tail)))) (fun _ _ _ _ => trivial) (fun hHeld => ?_)
        focus (refine takeL 0 (v := ?_) rfl (by kernel_rfl) (by kernel_rfl) (by kernel_rfl) (fun _ _ _ h => h) (by assumption) (by first | rfl | (go_simp <;> fail)) ?_ ?_; rotate_left; focus (intro w hSw; clear hSw; go_simp; try with_reducible rfl))
        try simp only [Act.put, List.setIfInBounds_toArray, List.set_cons_zero, List.set_cons_succ]
        refine takeL 1 rfl (by kernel_rfl) (by kernel_rfl) (by kernel_rfl) (fun _ _ _ h => h) (by assumption) (by first | rfl | (go_simp <;> fail)) (yield_load rfl Try.underlying42 rfl rfl (by (first | (apply FindX.box; (· (repeat (first | exact List.Mem.head _ | apply List.Mem.tail))); rfl) | exact FindX.mem (by assumption)))) ?_
        try simp only [Act.put, List.setIfInBounds_toArray, List.set_cons_zero, List.set_cons_succ]
        focus (refine takeL 2 (v := ?_) rfl (by kernel_rfl) (by kernel_rfl) (by kernel_rfl) (fun _ _ _ h => h) (by assumption) (by first | rfl | (go_simp <;> fail)) ?_ ?_; rotate_left; focus (intro w hSw; clear hSw; go_simp; try with_reducible rfl))
        try simp only [Act.put, List.setIfInBounds_toArray, List.set_cons_zero, List.set_cons_succ]
        focus (refine takeL 3 (v := ?_) rfl (by kernel_rfl) (by kernel_rfl) (by kernel_rfl) (fun _ _ _ h => h) (by assumption) (by first | rfl | (go_simp <;> fail)) ?_ ?_; rotate_left; focus (intro w hSw; clear hSw; go_simp; try with_reducible rfl))
        try simp only [Act.put, List.setIfInBounds_toArray, List.set_cons_zero, List.set_cons_succ]
        focus (refine takeL 4 (v := ?_) rfl (by kernel_rfl) (by kernel_rfl) (by kernel_rfl) (fun _ _ _ h => h) (by assumption) (by first | rfl | (go_simp <;> fail)) ?_ ?_; rotate_left; focus (intro w hSw; clear hSw; go_simp; try with_reducible rfl))
        try simp only [Act.put, List.setIfInBounds_toArray, List.set_cons_zero, List.set_cons_succ]
        refine takeL 5 rfl (by kernel_rfl) (by kernel_rfl) (by kernel_rfl) (fun _ _ _ h => h) (by assumption) (by first | rfl | (go_simp <;> fail)) (yield_load rfl Try.underlying3 rfl rfl (by (first | (apply FindX.box; (· (repeat (first | exact List.Mem.head _ | apply List.Mem.tail))); rfl) | exact FindX.mem (by assumption)))) ?_
        try simp only [Act.put, List.setIfInBounds_toArray, List.set_cons_zero, List.set_cons_succ]
        focus (refine takeL 6 (v := ?_) rfl (by kernel_rfl) (by kernel_rfl) (by kernel_rfl) (fun _ _ _ h => h) (by assumption) (by first | rfl | (go_simp <;> fail)) ?_ ?_; rotate_left; focus (intro w hSw; clear hSw; go_simp; try with_reducible rfl))
        try simp only [Act.put, List.setIfInBounds_toArray, List.set_cons_zero, List.set_cons_succ]
        refine takeL 7 rfl (by kernel_rfl) (by kernel_rfl) (by kernel_rfl) (fun _ _ _ h => h) (by assumption) (by first | rfl | (go_simp <;> fail)) (yield_load rfl Try.underlying42 rfl rfl (by (first | (apply FindX.box; (· (repeat (first | exact List.Mem.head _ | apply List.Mem.tail))); rfl) | exact FindX.mem (by assumption)))) ?_
        try simp only [Act.put, List.setIfInBounds_toArray, List.set_cons_zero, List.set_cons_succ]
        focus (refine takeL 8 (v := ?_) rfl (by kernel_rfl) (by kernel_rfl) (by kernel_rfl) (fun _ _ _ h => h) (by assumption) (by first | rfl | (go_simp <;> fail)) ?_ ?_; rotate_left; focus (intro w hSw; clear hSw; go_simp; try with_reducible rfl))
        try simp only [Act.put, List.setIfInBounds_toArray, List.set_cons_zero, List.set_cons_succ]
        focus (refine takeL 9 (v := ?_) rfl (by kernel_rfl) (by kernel_rfl) (by kernel_rfl) (fun _ _ _ h => h) (by assumption) (by first | rfl | (go_simp <;> fail)) ?_ ?_; rotate_left; focus (intro w hSw; clear hSw; go_simp; try with_reducible rfl))
        try simp only [Act.put, List.setIfInBounds_toArray, List.set_cons_zero, List.set_cons_succ]
        focus (refine takeL 10 (v := ?_) rfl (by kernel_rfl) (by kernel_rfl) (by kernel_rfl) (fun _ _ _ h => h) (by assumption) (by first | rfl | (go_simp <;> fail)) ?_ ?_; rotate_left; focus (intro w hSw; clear hSw; go_simp; try with_reducible rfl))
        try simp only [Act.put, List.setIfInBounds_toArray, List.set_cons_zero, List.set_cons_succ]
        refine takeL 11 rfl (by kernel_rfl) (by kernel_rfl) (by kernel_rfl) (fun _ _ _ h => h) (by assumption) (by first | rfl | (go_simp <;> fail)) (yield_load rfl Try.underlying3 rfl rfl (by (first | (apply FindX.box; (· (repeat (first | exact List.Mem.head _ | apply List.Mem.tail))); rfl) | exact FindX.mem (by assumption)))) ?_
        try simp only [Act.put, List.setIfInBounds_toArray, List.set_cons_zero, List.set_cons_succ]
        focus (refine takeL 12 (v := ?_) rfl (by kernel_rfl) (by kernel_rfl) (by kernel_rfl) (fun _ _ _ h => h) (by assumption) (by first | rfl | (go_simp <;> fail)) ?_ ?_; rotate_left; focus (intro w hSw; clear hSw; go_simp; try with_reducible rfl))
        try simp only [Act.put, List.setIfInBounds_toArray, List.set_cons_zero, List.set_cons_succ]
        focus (refine takeL 13 (v := ?_) rfl (by kernel_rfl) (by kernel_rfl) (by kernel_rfl) (fun _ _ _ h => h) (by assumption) (by first | rfl | (go_simp <;> fail)) ?_ ?_; rotate_left; focus (intro w hSw; clear hSw; go_simp; try with_reducible rfl))
        try simp only [Act.put, List.setIfInBounds_toArray, List.set_cons_zero, List.set_cons_succ]
        first | (focus (refine takeL 14 (v := ?_) rfl (by kernel_rfl) (by kernel_rfl) (by kernel_rfl) (fun _ _ _ h => h) (by assumption) ?_ ?_ ?_; rotate_left; (focus (first | rfl | (go_simp <;> fail))); (focus (intro w hSw; clear hSw; go_simp; try with_reducible rfl)))) | (refine skipL 14 rfl (by kernel_rfl) (by kernel_rfl) (by kernel_rfl) (fun _ _ _ h => h) (by assumption) ?_ ?_; (focus (first | rfl | (go_simp <;> fail))))
        try simp only [Act.put, List.setIfInBounds_toArray, List.set_cons_zero, List.set_cons_succ]
        first | (focus (refine' takeL 15 rfl (by kernel_rfl) (by kernel_rfl) (by kernel_rfl) (fun _ _ _ h => h) (by assumption) ?_ ?_ ?_; rotate_left; (focus (first | rfl | (go_simp <;> fail))); (focus (intro w hSw; refine' yield_load rfl Try.underlying42 rfl rfl ?_ w hSw; (first | (apply FindX.box; (· (repeat (first | exact List.Mem.head _ | apply List.Mem.tail))); rfl) | exact FindX.mem (by assumption)))))) | (refine skipL 15 rfl (by kernel_rfl) (by kernel_rfl) (by kernel_rfl) (fun _ _ _ h => h) (by assumption) ?_ ?_; (focus (first | rfl | (go_simp <;> fail))))
        try simp only [Act.put, List.setIfInBounds_toArray, List.set_cons_zero, List.set_cons_succ]
        first | (focus (refine takeL 16 (v := ?_) rfl (by kernel_rfl) (by kernel_rfl) (by kernel_rfl) (fun _ _ _ h => h) (by assumption) ?_ ?_ ?_; rotate_left; (focus (first | rfl | (go_simp <;> fail))); (focus (intro w hSw; clear hSw; go_simp; try with_reducible rfl)))) | (refine skipL 16 rfl (by kernel_rfl) (by kernel_rfl) (by kernel_rfl) (fun _ _ _ h => h) (by assumption) ?_ ?_; (focus (first | rfl | (go_simp <;> fail))))
        try simp only [Act.put, List.setIfInBounds_toArray, List.set_cons_zero, List.set_cons_succ]
        first | (focus (refine takeL 17 (v := ?_) rfl (by kernel_rfl) (by kernel_rfl) (by kernel_rfl) (fun _ _ _ h => h) (by assumption) ?_ ?_ ?_; rotate_left; (focus (first | rfl | (go_simp <;> fail))); (focus (intro w hSw; clear hSw; go_simp; try with_reducible rfl)))) | (refine skipL 17 rfl (by kernel_rfl) (by kernel_rfl) (by kernel_rfl) (fun _ _ _ h => h) (by assumption) ?_ ?_; (focus (first | rfl | (go_simp <;> fail))))
        try simp only [Act.put, List.setIfInBounds_toArray, List.set_cons_zero, List.set_cons_succ]
        first | (focus (refine takeL 18 (v := ?_) rfl (by kernel_rfl) (by kernel_rfl) (by kernel_rfl) (fun _ _ _ h => h) (by assumption) ?_ ?_ ?_; rotate_left; (focus (first | rfl | (go_simp <;> fail))); (focus (intro w hSw; clear hSw; go_simp; try with_reducible rfl)))) | (refine skipL 18 rfl (by kernel_rfl) (by kernel_rfl) (by kernel_rfl) (fun _ _ _ h => h) (by assumption) ?_ ?_; (focus (first | rfl | (go_simp <;> fail))))
        try simp only [Act.put, List.setIfInBounds_toArray, List.set_cons_zero, List.set_cons_succ]
        first | (focus (refine' takeL 19 rfl (by kernel_rfl) (by kernel_rfl) (by kernel_rfl) (fun _ _ _ h => h) (by assumption) ?_ ?_ ?_; rotate_left; (focus (first | rfl | (go_simp <;> fail))); (focus (intro w hSw; refine' yield_load rfl Try.underlying22 rfl rfl ?_ w hSw; (first | (apply FindX.box; (· (repeat (first | exact List.Mem.head _ | apply List.Mem.tail))); rfl) | exact FindX.mem (by assumption)))))) | (refine skipL 19 rfl (by kernel_rfl) (by kernel_rfl) (by kernel_rfl) (fun _ _ _ h => h) (by assumption) ?_ ?_; (focus (first | rfl | (go_simp <;> fail))))
        try simp only [Act.put, List.setIfInBounds_toArray, List.set_cons_zero, List.set_cons_succ]
        first | (focus (refine takeL 20 (v := ?_) rfl (by kernel_rfl) (by kernel_rfl) (by kernel_rfl) (fun _ _ _ h => h) (by assumption) ?_ ?_ ?_; rotate_left; (focus (first | rfl | (go_simp <;> fail))); (focus (intro w hSw; clear hSw; go_simp; try with_reducible rfl)))) | (refine skipL 20 rfl (by kernel_rfl) (by kernel_rfl) (by kernel_rfl) (fun _ _ _ h => h) (by assumption) ?_ ?_; (focus (first | rfl | (go_simp <;> fail))))
        try simp only [Act.put, List.setIfInBounds_toArray, List.set_cons_zero, List.set_cons_succ]
        first | (focus (refine' takeL 21 rfl (by kernel_rfl) (by kernel_rfl) (by kernel_rfl) (fun _ _ _ h => h) (by assumption) ?_ ?_ ?_; rotate_left; (focus (first | rfl | (go_simp <;> fail))); (focus (intro w hSw; refine' yield_load rfl Try.underlying42 rfl rfl ?_ w hSw; (first | (apply FindX.box; (· (repeat (first | exact List.Mem.head _ | apply List.Mem.tail))); rfl) | exact FindX.mem (by assumption)))))) | (refine skipL 21 rfl (by kernel_rfl) (by kernel_rfl) (by kernel_rfl) (fun _ _ _ h => h) (by assumption) ?_ ?_; (focus (first | rfl | (go_simp <;> fail))))
        try simp only [Act.put, List.setIfInBounds_toArray, List.set_cons_zero, List.set_cons_succ]
        first | (focus (refine takeL 22 (v := ?_) rfl (by kernel_rfl) (by kernel_rfl) (by kernel_rfl) (fun _ _ _ h => h) (by assumption) ?_ ?_ ?_; rotate_left; (focus (first | rfl | (go_simp <;> fail))); (focus (intro w hSw; clear hSw; go_simp; try with_reducible rfl)))) | (refine skipL 22 rfl (by kernel_rfl) (by kernel_rfl) (by kernel_rfl) (fun _ _ _ h => h) (by assumption) ?_ ?_; (focus (first | rfl | (go_simp <;> fail))))
        try simp only [Act.put, List.setIfInBounds_toArray, List.set_cons_zero, List.set_cons_succ]
        first | (focus (refine takeL 23 (v := ?_) rfl (by kernel_rfl) (by kernel_rfl) (by kernel_rfl) (fun _ _ _ h => h) (by assumption) ?_ ?_ ?_; rotate_left; (focus (first | rfl | (go_simp <;> fail))); (focus (intro w hSw; clear hSw; go_simp; try with_reducible rfl)))) | (refine skipL 23 rfl (by kernel_rfl) (by kernel_rfl) (by kernel_rfl) (fun _ _ _ h => h) (by assumption) ?_ ?_; (focus (first | rfl | (go_simp <;> fail))))
        try simp only [Act.put, List.setIfInBounds_toArray, List.set_cons_zero, List.set_cons_succ]
        first | (focus (refine takeL 24 (v := ?_) rfl (by kernel_rfl) (by kernel_rfl) (by kernel_rfl) (fun _ _ _ h => h) (by assumption) ?_ ?_ ?_; rotate_left; (focus (first | rfl | (go_simp <;> fail))); (focus (intro w hSw; clear hSw; go_simp; try with_reducible rfl)))) | (refine skipL 24 rfl (by kernel_rfl) (by kernel_rfl) (by kernel_rfl) (fun _ _ _ h => h) (by assumption) ?_ ?_; (focus (first | rfl | (go_simp <;> fail))))
        try simp only [Act.put, List.setIfInBounds_toArray, List.set_cons_zero, List.set_cons_succ]
        first | (focus (refine' takeL 25 rfl (by kernel_rfl) (by kernel_rfl) (by kernel_rfl) (fun _ _ _ h => h) (by assumption) ?_ ?_ ?_; rotate_left; (focus (first | rfl | (go_simp <;> fail))); (focus (intro w hSw; refine' yield_load rfl Try.underlying22 rfl rfl ?_ w hSw; (first | (apply FindX.box; (· (repeat (first | exact List.Mem.head _ | apply List.Mem.tail))); rfl) | exact FindX.mem (by assumption)))))) | (refine skipL 25 rfl (by kernel_rfl) (by kernel_rfl) (by kernel_rfl) (fun _ _ _ h => h) (by assumption) ?_ ?_; (focus (first | rfl | (go_simp <;> fail))))
        try simp only [Act.put, List.setIfInBounds_toArray, List.set_cons_zero, List.set_cons_succ]
        refine wpAnyH_ready (rs := [26]) (by kernel_rfl) (by simp) ?_
        refine consL 26 rfl (fun K hK => ?_) AllReadyH.nil
        first | (refine ifYes ?_ ?_; (focus rfl); go_simp; refine (same_c _ _ hS.inw _ _ _ _ HV.out HV'.out).mono ?_; rintro e' w67 ⟨rfl, rfl⟩; go_wp2_with fail) | (refine ifNo ?_ ?_; focus (first | exact Bool.false_ne_true | (go_simp <;> fail)))
        refine hK.out _ _ (by first | exact ((hS.sx0.cons hS (by (repeat (first | exact List.Mem.head _ | apply List.Mem.tail)))).cons hS (by (repeat (first | exact List.Mem.head _ | apply List.Mem.tail)))) | exact Sx.le (by assumption) ((hS.sx0.cons hS (by (repeat (first | exact List.Mem.head _ | apply List.Mem.tail)))).cons hS (by (repeat (first | exact List.Mem.head _ | apply List.Mem.tail))))) (fun hHeld => ?_)
        clear hK K
        try simp only [Act.put, List.setIfInBounds_toArray, List.set_cons_zero, List.set_cons_succ]
        first | (focus (refine takeL 27 (v := ?_) rfl (by kernel_rfl) (by kernel_rfl) (by kernel_rfl) (fun _ _ _ h => h) (by assumption) ?_ ?_ ?_; rotate_left; (focus (first | rfl | (go_simp <;> fail))); (focus (intro w hSw; clear hSw; go_simp; try with_reducible rfl)))) | (refine skipL 27 rfl (by kernel_rfl) (by kernel_rfl) (by kernel_rfl) (fun _ _ _ h => h) (by assumption) ?_ ?_; (focus (first | rfl | (go_simp <;> fail))))
        try simp only [Act.put, List.setIfInBounds_toArray, List.set_cons_zero, List.set_cons_succ]
        focus (refine takeL 28 (v := ?_) rfl (by kernel_rfl) (by kernel_rfl) (by kernel_rfl) (fun _ _ _ h => h) (by assumption) (by first | rfl | (go_simp <;> fail)) ?_ ?_; rotate_left; focus (intro w hSw; clear hSw; go_simp; try with_reducible rfl))
        try simp only [Act.put, List.setIfInBounds_toArray, List.set_cons_zero, List.set_cons_succ]
        refine wpAnyH_done (by kernel_rfl) ?_ _
        refine NoPanic.normal ?_
        go_wp2_with (first 
    | ((with_reducible apply l_box (ty := 44) (y := (.tmp 0)) hS); (· (first | (go_simp; done) | (go_simp; with_reducible rfl))); (· exact rfl); intro w2 b2 hS1; replace hS := hS1; clear hS1)
    | ((with_reducible apply l_box (ty := 44) (y := (.tmp 1)) hS); (· (first | (go_simp; done) | (go_simp; with_reducible rfl))); (· exact rfl); intro w3 b3 hS1; replace hS := hS1; clear hS1)
    | ((with_reducible apply l_load hS); (· (first | exact Try.underlying3 | exact Try.underlying4 | exact Try.underlying22 | exact Try.underlying42)); (· exact rfl); (· exact rfl); (· (first | (apply Find.box; (· (repeat (first | exact List.Mem.head _ | apply List.Mem.tail))); rfl) | exact Find.mem (by assumption) | (refine Find.row (by (repeat (first | exact List.Mem.head _ | apply List.Mem.tail))) ?_; assumption))))
    | ((with_reducible apply g_load hS); (· (first | exact Try.underlying3 | exact Try.underlying4 | exact Try.underlying22 | exact Try.underlying42)); (· exact rfl); (· (first | rfl | (go_simp; done))); (· exact rfl); (· (first | (apply Find.box; (· (repeat (first | exact List.Mem.head _ | apply List.Mem.tail))); rfl) | exact Find.mem (by assumption) | (refine Find.row (by (repeat (first | exact List.Mem.head _ | apply List.Mem.tail))) ?_; assumption)))))
        go_ret
        exact ⟨_, m, rfl, by rw [D.out] <;> rfl, hS.done⟩
    · obtain rfl : k = d.wet.length := by omega
      go_wp2_with (first 
    | ((with_reducible apply l_box (ty := 44) (y := (.tmp 0)) hS); (· (first | (go_simp; done) | (go_simp; with_reducible rfl))); (· exact rfl); intro w2 b2 hS1; replace hS := hS1; clear hS1)
    | ((with_reducible apply l_box (ty := 44) (y := (.tmp 1)) hS); (· (first | (go_simp; done) | (go_simp; with_reducible rfl))); (· exact rfl); intro w3 b3 hS1; replace hS := hS1; clear hS1)
    | ((with_reducible apply l_load hS); (· (first | exact Try.underlying3 | exact Try.underlying4 | exact Try.underlying22 | exact Try.underlying42)); (· exact rfl); (· exact rfl); (· (first | (apply Find.box; (· (repeat (first | exact List.Mem.head _ | apply List.Mem.tail))); rfl) | exact Find.mem (by assumption) | (refine Find.row (by (repeat (first | exact List.Mem.head _ | apply List.Mem.tail))) ?_; assumption))))
    | ((with_reducible apply g_load hS); (· (first | exact Try.underlying3 | exact Try.underlying4 | exact Try.underlying22 | exact Try.underlying42)); (· exact rfl); (· (first | rfl | (go_simp; done))); (· exact rfl); (· (first | (apply Find.box; (· (repeat (first | exact List.Mem.head _ | apply List.Mem.tail))); rfl) | exact Find.mem (by assumption) | (refine Find.row (by (repeat (first | exact List.Mem.head _ | apply List.Mem.tail))) ?_; assumption)))))
      go_ret
      have := hall.out
      rw [List.take_length, List.take_of_length_le (by rw [QQ2.out]; exact Nat.le_refl _)] at this
      exact ⟨_, m, rfl, by rw [sameD_true QQ1.out this QQ3.out QQ4.out] <;> rfl, hS.done⟩
end Go.Proofs.Ytnmgiiaejpaeeaa
/- Contracts over the state of a walk: bytes.Equal, disk.Same. -/
namespace Go.Proofs.Ytnmgiiaejpaeeaa
set_option linter.unusedVariables false
set_option linter.unusedSimpArgs false
open Go.RowKit Go.Shelf
theorem beq_any (p q : Option Addr) (c d : Nat) (xs ys : List Int) (w : World) (hx : Rd .u8 w p xs) (hy : Rd .u8 w q ys) (bx : IsB xs) (by' : IsB ys) :
    Calls Try.prog 85 #[.slice p xs.length c, .slice q ys.length d] w fun e w' => e = .returned (.bool (decide (xs = ys))) ∧ w = w' := by
  have k1 := conv_rd (c := c) hx 0
  have k2 := conv_rd (c := d) hy 0
  simp only [World.drewN_zero] at k1 k2
  have s := strs_beq bx by'
  generalize decide (xs = ys) = B at *
  generalize strOfNums xs = S at *
  generalize strOfNums ys = T at *
  go_enter Try.func85, Try.ntmps85
  go_wp2
  go_ret
  exact ⟨rfl, rfl⟩
theorem beq_c (m : Mem) (w : World) (hm : m.In w) (va vb : Value) (xs ys : List Int) (ha : bytesL.rd m [va] xs) (hb : bytesL.rd m [vb] ys) :
    Calls Try.prog 85 #[va, vb] w fun e w' => e = .returned (.bool (decide (xs = ys))) ∧ w = w' := by
  obtain ⟨p0, c0, rfl, a1, a2, _, a4⟩ := Lay.list_open ha
  obtain ⟨p1, c1, rfl, b1, b2, b3, b4⟩ := Lay.list_open hb
  exact beq_any _ _ _ _ _ _ w (a4.rdInt hm) (b4.rdInt hm) (inK_isB a4.inK) (inK_isB b4.inK)
set_option maxRecDepth 100000 in
set_option maxHeartbeats 4000000 in
theorem same1_c (m : Mem) (w : World) (hm : m.In w) (cs ds : List Value) (x y : Wr) (h : wrL.rd m cs x) (h' : wrL.rd m ds y) :
    Calls Try.prog 84 #[.agg cs.toArray, .agg ds.toArray] w (Ret w m fun v _ => v = .bool (decide (x = y))) := by
  obtain ⟨v0, rfl, _, h1⟩ := wrL_open h
  obtain ⟨v1, rfl, _, h2⟩ := wrL_open h'
  have H1 := Lib.hid h1
  have H2 := Lib.hid h2
  obtain ⟨p0, c0, rfl, _⟩ := Lay.list_open h1
  obtain ⟨p1, c1, rfl, _⟩ := Lay.list_open h2
  have hS := St.start hm
  clear h h' h1 h2
  by_cases q1 : x.pos = y.pos
  · have R1 : (x.pos == y.pos) = true := by simpa using q1
    have D : Hid (decide (x = y) = decide (x.b = y.b)) := by
      show _ = _
      cases x; cases y; simp_all
    clear q1
    go_enter Try.func84, Try.ntmps84
    go_wp2_with (first 
    | ((with_reducible apply l_box (ty := 102) (y := (.tmp 0)) hS); (· (first | (go_simp; done) | (go_simp; with_reducible rfl))); (· exact rfl); intro w2 b2 hS1; replace hS := hS1; clear hS1)
    | ((with_reducible apply l_box (ty := 102) (y := (.tmp 1)) hS); (· (first | (go_simp; done) | (go_simp; with_reducible rfl))); (· exact rfl); intro w3 b3 hS1; replace hS := hS1; clear hS1)
    | ((with_reducible apply l_load hS); (· (first | exact Try.underlying3 | exact Try.underlying22)); (· exact rfl); (· exact rfl); (· (first | (apply Find.box; (· (repeat (first | exact List.Mem.head _ | apply List.Mem.tail))); rfl) | exact Find.mem (by assumption) | (refine Find.row (by (repeat (first | exact List.Mem.head _ | apply List.Mem.tail))) ?_; assumption))))
    | ((with_reducible apply g_load hS); (· (first | exact Try.underlying3 | exact Try.underlying22)); (· exact rfl); (· (first | rfl | (go_simp; done))); (· exact rfl); (· (first | (apply Find.box; (· (repeat (first | exact List.Mem.head _ | apply List.Mem.tail))); rfl) | exact Find.mem (by assumption) | (refine Find.row (by (repeat (first | exact List.Mem.head _ | apply List.Mem.tail))) ?_; assumption))))
      | (go_at_call 85; refine (beq_c _ _ hS.inw _ _ _ _ H1.out H2.out).mono ?_; rintro e' w10 ⟨rfl, rfl⟩; rw [← D.out]; generalize hB : decide (x = y) = B; have HB := Lib.hid hB; clear hB))
    go_ret
    exact ⟨_, m, rfl, by rw [HB.out] <;> rfl, hS.done⟩
  · have R1 : (x.pos == y.pos) = false := by simpa using q1
    have D := Lib.hid (decide_eq_false (fun h : x = y => q1 (by rw [h])))
    clear q1
    go_enter Try.func84, Try.ntmps84
    go_wp2_with (first 
    | ((with_reducible apply l_box (ty := 102) (y := (.tmp 0)) hS); (· (first | (go_simp; done) | (go_simp; with_reducible rfl))); (· exact rfl); intro w2 b2 hS1; replace hS := hS1; clear hS1)
    | ((with_reducible apply l_box (ty := 102) (y := (.tmp 1)) hS); (· (first | (go_simp; done) | (go_simp; with_reducible rfl))); (· exact rfl); intro w3 b3 hS1; replace hS := hS1; clear hS1)
    | ((with_reducible apply l_load hS); (· (first | exact Try.underlying3 | exact Try.underlying22)); (· exact rfl); (· exact rfl); (· (first | (apply Find.box; (· (repeat (first | exact List.Mem.head _ | apply List.Mem.tail))); rfl) | exact Find.mem (by assumption) | (refine Find.row (by (repeat (first | exact List.Mem.head _ | apply List.Mem.tail))) ?_; assumption))))
    | ((with_reducible apply g_load hS); (· (first | exact Try.underlying3 | exact Try.underlying22)); (· exact rfl); (· (first | rfl | (go_simp; done))); (· exact rfl); (· (first | (apply Find.box; (· (repeat (first | exact List.Mem.head _ | apply List.Mem.tail))); rfl) | exact Find.mem (by assumption) | (refine Find.row (by (repeat (first | exact List.Mem.head _ | apply List.Mem.tail))) ?_; assumption)))))
    go_ret
    exact ⟨_, m, rfl, by rw [D.out] <;> rfl, hS.done⟩
set_option maxRecDepth 100000 in
set_option maxHeartbeats 4000000 in
theorem eqf_c (m : Mem) (w : World) (hm : m.In w) (va vb : Value) (xs ys : List Wr) (ha : wrL.list.rd m [va] xs) (hb : wrL.list.rd m [vb] ys) :
    Calls Try.prog 86 #[va, vb, .func (.func 84) #[] #[]] w (Ret w m fun v _ => v = .bool (decide (xs = ys))) := by
  obtain ⟨p0, c0, rfl, a1, a2, a3, a4⟩ := Lay.list_open ha
  obtain ⟨p1, c1, rfl, b1, b2, b3, b4⟩ := Lay.list_open hb
  have A4 := Lib.hid a4
  have B4 := Lib.hid b4
  have eg := enters_of Try.func84 (by kernel_rfl) rfl
  simp only [maxLen] at a2 b2
  have hS := St.start hm
  clear ha hb a3 a4 b3 b4
  by_cases q2 : xs.length = ys.length
  case neg =>
    have D := Lib.hid (decide_eq_false (fun h : xs = ys => q2 (by rw [h])))
    have Q2 : ((xs.length : Int) != (ys.length : Int)) = true := by rw [bne_iff_ne]; omega
    clear q2
    go_enter Try.func86, Try.ntmps86
    go_wp2_with (first 
    | ((with_reducible apply l_alloc (ty := 102) (dst := some 8) hS (.agg #[.int .i64 0, .slice none 0 0]) [.int .i64 0, .slice none 0 0]); (· kernel_rfl); (· rfl); intro w8 b8 hS1; replace hS := hS1; clear hS1)
    | ((with_reducible apply l_alloc (ty := 102) (dst := some 9) hS (.agg #[.int .i64 0, .slice none 0 0]) [.int .i64 0, .slice none 0 0]); (· kernel_rfl); (· rfl); intro w9 b9 hS1; replace hS := hS1; clear hS1)
    | ((with_reducible apply l_loads hS); (· (first | exact (show ∃ d, Try.prog.underlying 102 = some d ∧ d.isRow = true ∧ (Try.prog.info? 102).map (·.size) = some 2 from ⟨_, Try.underlying102, rfl, by kernel_rfl⟩))); (· exact rfl); (· (first | (apply Finds.box; (· (repeat (first | exact List.Mem.head _ | apply List.Mem.tail))); (· (repeat (first | exact SubL.stop | apply SubL.take | apply SubL.skip))); done) | (refine Finds.mem2 (by assumption) ?_; first | rfl | assumption | (simp; done)) | (apply Finds.row; (· (repeat (first | exact List.Mem.head _ | apply List.Mem.tail))); (· assumption); (· rfl)))))
    | ((with_reducible apply g_loads hS); (· (first | exact (show ∃ d, Try.prog.underlying 102 = some d ∧ d.isRow = true ∧ (Try.prog.info? 102).map (·.size) = some 2 from ⟨_, Try.underlying102, rfl, by kernel_rfl⟩))); (· (first | rfl | (go_simp; done))); (· exact rfl); (· (first | (apply Finds.box; (· (repeat (first | exact List.Mem.head _ | apply List.Mem.tail))); (· (repeat (first | exact SubL.stop | apply SubL.take | apply SubL.skip))); done) | (refine Finds.mem2 (by assumption) ?_; first | rfl | assumption | (simp; done)) | (apply Finds.row; (· (repeat (first | exact List.Mem.head _ | apply List.Mem.tail))); (· assumption); (· rfl)))))
    | ((with_reducible apply l_stores hS); (· (first | exact (show ∃ d, Try.prog.underlying 102 = some d ∧ d.isRow = true ∧ (Try.prog.info? 102).map (·.size) = some 2 from ⟨_, Try.underlying102, rfl, by kernel_rfl⟩))); (· exact rfl); (· exact rfl); (· exact rfl); (· (first | assumption | (simp [Value.oneCell']; done))); (· (repeat (first | exact List.Mem.head _ | apply List.Mem.tail))); (· (repeat (first | exact SetsL.stop | apply SetsL.put | apply SetsL.skip))); (· (repeat (first | exact UpdB.head | apply UpdB.tail))); intro ws hS1; replace hS := hS1; clear hS1))
    go_ret
    exact ⟨_, m, rfl, by rw [D.out] <;> rfl, hS.done⟩
  have QQ2 := Lib.hid q2
  rw [← q2] at b1 ⊢
  clear q2
  go_enter Try.func86, Try.ntmps86
  go_wp2_with (first 
    | ((with_reducible apply l_alloc (ty := 102) (dst := some 8) hS (.agg #[.int .i64 0, .slice none 0 0]) [.int .i64 0, .slice none 0 0]); (· kernel_rfl); (· rfl); intro w8 b8 hS1; replace hS := hS1; clear hS1)
    | ((with_reducible apply l_alloc (ty := 102) (dst := some 9) hS (.agg #[.int .i64 0, .slice none 0 0]) [.int .i64 0, .slice none 0 0]); (· kernel_rfl); (· rfl); intro w9 b9 hS1; replace hS := hS1; clear hS1)
    | ((with_reducible apply l_loads hS); (· (first | exact (show ∃ d, Try.prog.underlying 102 = some d ∧ d.isRow = true ∧ (Try.prog.info? 102).map (·.size) = some 2 from ⟨_, Try.underlying102, rfl, by kernel_rfl⟩))); (· exact rfl); (· (first | (apply Finds.box; (· (repeat (first | exact List.Mem.head _ | apply List.Mem.tail))); (· (repeat (first | exact SubL.stop | apply SubL.take | apply SubL.skip))); done) | (refine Finds.mem2 (by assumption) ?_; first | rfl | assumption | (simp; done)) | (apply Finds.row; (· (repeat (first | exact List.Mem.head _ | apply List.Mem.tail))); (· assumption); (· rfl)))))
    | ((with_reducible apply g_loads hS); (· (first | exact (show ∃ d, Try.prog.underlying 102 = some d ∧ d.isRow = true ∧ (Try.prog.info? 102).map (·.size) = some 2 from ⟨_, Try.underlying102, rfl, by kernel_rfl⟩))); (· (first | rfl | (go_simp; done))); (· exact rfl); (· (first | (apply Finds.box; (· (repeat (first | exact List.Mem.head _ | apply List.Mem.tail))); (· (repeat (first | exact SubL.stop | apply SubL.take | apply SubL.skip))); done) | (refine Finds.mem2 (by assumption) ?_; first | rfl | assumption | (simp; done)) | (apply Finds.row; (· (repeat (first | exact List.Mem.head _ | apply List.Mem.tail))); (· assumption); (· rfl)))))
    | ((with_reducible apply l_stores hS); (· (first | exact (show ∃ d, Try.prog.underlying 102 = some d ∧ d.isRow = true ∧ (Try.prog.info? 102).map (·.size) = some 2 from ⟨_, Try.underlying102, rfl, by kernel_rfl⟩))); (· exact rfl); (· exact rfl); (· exact rfl); (· (first | assumption | (simp [Value.oneCell']; done))); (· (repeat (first | exact List.Mem.head _ | apply List.Mem.tail))); (· (repeat (first | exact SetsL.stop | apply SetsL.put | apply SetsL.skip))); (· (repeat (first | exact UpdB.head | apply UpdB.tail))); intro ws hS1; replace hS := hS1; clear hS1))
  go_loopw [17] (fun i wr => ∃ (k : Nat) (m2 : Mem), k ≤ xs.length ∧ i = .int .i64 k ∧ Hid (xs.take k = ys.take k) ∧ m.Le m2 ∧ St [] w m wr [] m2) (fun i _ => xs.length - (intOf i).toNat)
  case atStart => exact ⟨0, m, Nat.zero_le _, rfl, by simp [Hid], Mem.Le.refl _, hS⟩
  case round =>
    clear hS
    obtain ⟨k, m2, hk, rfl, hall, hle, hS⟩ := hrel
    by_cases hlt : k < xs.length
    · have hlt' : k < ys.length := by rw [← QQ2.out]; exact hlt
      obtain ⟨b, o, cs, rfl, hx, hg⟩ := (A4.out.mono hle).get k hlt
      have HX := Lib.hid hx
      obtain ⟨v, rfl, _, hv⟩ := wrL_open hx
      obtain ⟨q, c, rfl, x1, x2, x3, x4⟩ := Lay.list_open hv
      obtain ⟨bb, oo, cs', rfl, hx', hgg⟩ := (B4.out.mono hle).get k hlt'
      have HX' := Lib.hid hx'
      obtain ⟨v', rfl, _, hv'⟩ := wrL_open hx'
      obtain ⟨q', c', rfl, y1, y2, y3, y4⟩ := Lay.list_open hv'
      have hg1 : ∀ j v, [.int .i64 xs[k].pos, .slice q xs[k].b.length c][j]? = some v → m2 ⟨b, o + k * 2 + j, none⟩ = some v := hg
      have hg2 : ∀ j v, [.int .i64 ys[k].pos, .slice q' ys[k].b.length c'][j]? = some v → m2 ⟨bb, oo + k * 2 + j, none⟩ = some v := hgg
      clear hg hgg hx hx' hv hv' x1 x2 x3 x4 y1 y2 y3 y4
      by_cases r1 : xs[k] = ys[k]
      · have R := Lib.hid (decide_eq_true r1)
        have HT : Hid (xs.take (k + 1) = ys.take (k + 1)) := by
          show _ = _
          rw [List.take_succ_eq_append_getElem hlt, List.take_succ_eq_append_getElem hlt', hall.out, r1]
        clear r1 hall
        go_wp2_with (first 
    | ((with_reducible apply l_alloc (ty := 102) (dst := some 8) hS (.agg #[.int .i64 0, .slice none 0 0]) [.int .i64 0, .slice none 0 0]); (· kernel_rfl); (· rfl); intro w8 b8 hS1; replace hS := hS1; clear hS1)
    | ((with_reducible apply l_alloc (ty := 102) (dst := some 9) hS (.agg #[.int .i64 0, .slice none 0 0]) [.int .i64 0, .slice none 0 0]); (· kernel_rfl); (· rfl); intro w9 b9 hS1; replace hS := hS1; clear hS1)
    | ((with_reducible apply l_loads hS); (· (first | exact (show ∃ d, Try.prog.underlying 102 = some d ∧ d.isRow = true ∧ (Try.prog.info? 102).map (·.size) = some 2 from ⟨_, Try.underlying102, rfl, by kernel_rfl⟩))); (· exact rfl); (· (first | (apply Finds.box; (· (repeat (first | exact List.Mem.head _ | apply List.Mem.tail))); (· (repeat (first | exact SubL.stop | apply SubL.take | apply SubL.skip))); done) | (refine Finds.mem2 (by assumption) ?_; first | rfl | assumption | (simp; done)) | (apply Finds.row; (· (repeat (first | exact List.Mem.head _ | apply List.Mem.tail))); (· assumption); (· rfl)))))
    | ((with_reducible apply g_loads hS); (· (first | exact (show ∃ d, Try.prog.underlying 102 = some d ∧ d.isRow = true ∧ (Try.prog.info? 102).map (·.size) = some 2 from ⟨_, Try.underlying102, rfl, by kernel_rfl⟩))); (· (first | rfl | (go_simp; done))); (· exact rfl); (· (first | (apply Finds.box; (· (repeat (first | exact List.Mem.head _ | apply List.Mem.tail))); (· (repeat (first | exact SubL.stop | apply SubL.take | apply SubL.skip))); done) | (refine Finds.mem2 (by assumption) ?_; first | rfl | assumption | (simp; done)) | (apply Finds.row; (· (repeat (first | exact List.Mem.head _ | apply List.Mem.tail))); (· assumption); (· rfl)))))
    | ((with_reducible apply l_stores hS); (· (first | exact (show ∃ d, Try.prog.underlying 102 = some d ∧ d.isRow = true ∧ (Try.prog.info? 102).map (·.size) = some 2 from ⟨_, Try.underlying102, rfl, by kernel_rfl⟩))); (· exact rfl); (· exact rfl); (· exact rfl); (· (first | assumption | (simp [Value.oneCell']; done))); (· (repeat (first | exact List.Mem.head _ | apply List.Mem.tail))); (· (repeat (first | exact SetsL.stop | apply SetsL.put | apply SetsL.skip))); (· (repeat (first | exact UpdB.head | apply UpdB.tail))); intro ws hS1; replace hS := hS1; clear hS1)
          | (go_at_call 84; refine (same1_c _ _ hS.inw _ _ _ _ HX.out HX'.out).mono ?_; rintro e' w29 ⟨v29, m3, rfl, rfl, hk3⟩; rw [R.out]; replace hS := hS.call hk3; have hle3 := hk3.le; clear hk3))
        go_roundw
        case rel => exact ⟨k + 1, m3, hlt, by go_num, HT, hle.trans hle3, hS.done⟩
        case measure => simp [intOf]; omega
      · have R := Lib.hid (decide_eq_false r1)
        have D := Lib.hid (decide_eq_false (fun h : xs = ys => r1 (by subst h; rfl)))
        clear r1 hall
        go_wp2_with (first 
    | ((with_reducible apply l_alloc (ty := 102) (dst := some 8) hS (.agg #[.int .i64 0, .slice none 0 0]) [.int .i64 0, .slice none 0 0]); (· kernel_rfl); (· rfl); intro w8 b8 hS1; replace hS := hS1; clear hS1)
    | ((with_reducible apply l_alloc (ty := 102) (dst := some 9) hS (.agg #[.int .i64 0, .slice none 0 0]) [.int .i64 0, .slice none 0 0]); (· kernel_rfl); (· rfl); intro w9 b9 hS1; replace hS := hS1; clear hS1)
    | ((with_reducible apply l_loads hS); (· (first | exact (show ∃ d, Try.prog.underlying 102 = some d ∧ d.isRow = true ∧ (Try.prog.info? 102).map (·.size) = some 2 from ⟨_, Try.underlying102, rfl, by kernel_rfl⟩))); (· exact rfl); (· (first | (apply Finds.box; (· (repeat (first | exact List.Mem.head _ | apply List.Mem.tail))); (· (repeat (first | exact SubL.stop | apply SubL.take | apply SubL.skip))); done) | (refine Finds.mem2 (by assumption) ?_; first | rfl | assumption | (simp; done)) | (apply Finds.row; (· (repeat (first | exact List.Mem.head _ | apply List.Mem.tail))); (· assumption); (· rfl)))))
    | ((with_reducible apply g_loads hS); (· (first | exact (show ∃ d, Try.prog.underlying 102 = some d ∧ d.isRow = true ∧ (Try.prog.info? 102).map (·.size) = some 2 from ⟨_, Try.underlying102, rfl, by kernel_rfl⟩))); (· (first | rfl | (go_simp; done))); (· exact rfl); (· (first | (apply Finds.box; (· (repeat (first | exact List.Mem.head _ | apply List.Mem.tail))); (· (repeat (first | exact SubL.stop | apply SubL.take | apply SubL.skip))); done) | (refine Finds.mem2 (by assumption) ?_; first | rfl | assumption | (simp; done)) | (apply Finds.row; (· (repeat (first | exact List.Mem.head _ | apply List.Mem.tail))); (· assumption); (· rfl)))))
    | ((with_reducible apply l_stores hS); (· (first | exact (show ∃ d, Try.prog.underlying 102 = some d ∧ d.isRow = true ∧ (Try.prog.info? 102).map (·.size) = some 2 from ⟨_, Try.underlying102, rfl, by kernel_rfl⟩))); (· exact rfl); (· exact rfl); (· exact rfl); (· (first | assumption | (simp [Value.oneCell']; done))); (· (repeat (first | exact List.Mem.head _ | apply List.Mem.tail))); (· (repeat (first | exact SetsL.stop | apply SetsL.put | apply SetsL.skip))); (· (repeat (first | exact UpdB.head | apply UpdB.tail))); intro ws hS1; replace hS := hS1; clear hS1)
          | (go_at_call 84; refine (same1_c _ _ hS.inw _ _ _ _ HX.out HX'.out).mono ?_; rintro e' w29 ⟨v29, m3, rfl, rfl, hk3⟩; rw [R.out]; replace hS := hS.call hk3; clear hk3))
        go_ret
        exact ⟨_, _, rfl, by rw [D.out] <;> rfl, hS.done⟩
    · obtain rfl : k = xs.length := by omega
      go_wp2_with (first 
    | ((with_reducible apply l_alloc (ty := 102) (dst := some 8) hS (.agg #[.int .i64 0, .slice none 0 0]) [.int .i64 0, .slice none 0 0]); (· kernel_rfl); (· rfl); intro w8 b8 hS1; replace hS := hS1; clear hS1)
    | ((with_reducible apply l_alloc (ty := 102) (dst := some 9) hS (.agg #[.int .i64 0, .slice none 0 0]) [.int .i64 0, .slice none 0 0]); (· kernel_rfl); (· rfl); intro w9 b9 hS1; replace hS := hS1; clear hS1)
    | ((with_reducible apply l_loads hS); (· (first | exact (show ∃ d, Try.prog.underlying 102 = some d ∧ d.isRow = true ∧ (Try.prog.info? 102).map (·.size) = some 2 from ⟨_, Try.underlying102, rfl, by kernel_rfl⟩))); (· exact rfl); (· (first | (apply Finds.box; (· (repeat (first | exact List.Mem.head _ | apply List.Mem.tail))); (· (repeat (first | exact SubL.stop | apply SubL.take | apply SubL.skip))); done) | (refine Finds.mem2 (by assumption) ?_; first | rfl | assumption | (simp; done)) | (apply Finds.row; (· (repeat (first | exact List.Mem.head _ | apply List.Mem.tail))); (· assumption); (· rfl)))))
    | ((with_reducible apply g_loads hS); (· (first | exact (show ∃ d, Try.prog.underlying 102 = some d ∧ d.isRow = true ∧ (Try.prog.info? 102).map (·.size) = some 2 from ⟨_, Try.underlying102, rfl, by kernel_rfl⟩))); (· (first | rfl | (go_simp; done))); (· exact rfl); (· (first | (apply Finds.box; (· (repeat (first | exact List.Mem.head _ | apply List.Mem.tail))); (· (repeat (first | exact SubL.stop | apply SubL.take | apply SubL.skip))); done) | (refine Finds.mem2 (by assumption) ?_; first | rfl | assumption | (simp; done)) | (apply Finds.row; (· (repeat (first | exact List.Mem.head _ | apply List.Mem.tail))); (· assumption); (· rfl)))))
    | ((with_reducible apply l_stores hS); (· (first | exact (show ∃ d, Try.prog.underlying 102 = some d ∧ d.isRow = true ∧ (Try.prog.info? 102).map (·.size) = some 2 from ⟨_, Try.underlying102, rfl, by kernel_rfl⟩))); (· exact rfl); (· exact rfl); (· exact rfl); (· (first | assumption | (simp [Value.oneCell']; done))); (· (repeat (first | exact List.Mem.head _ | apply List.Mem.tail))); (· (repeat (first | exact SetsL.stop | apply SetsL.put | apply SetsL.skip))); (· (repeat (first | exact UpdB.head | apply UpdB.tail))); intro ws hS1; replace hS := hS1; clear hS1))
      go_ret
      have := hall.out
      rw [List.take_length, List.take_of_length_le (by rw [QQ2.out]; exact Nat.le_refl _)] at this
      exact ⟨_, _, rfl, by rw [decide_eq_true this] <;> rfl, hS.done⟩
set_option maxRecDepth 100000 in
set_option maxHeartbeats 4000000 in
theorem same_d (m : Mem) (w : World) (hm : m.In w) (cs ds : List Value) (d e : Dk) (h : dkL.rd m cs d) (h' : dkL.rd m ds e) :
    Calls Try.prog 52 #[.agg cs.toArray, .agg ds.toArray] w (Ret w m fun v _ => v = .bool (sameD d e)) := by
  obtain ⟨v0, v1, rfl, h0, h1, _⟩ := dkL_open h
  obtain ⟨v2, v3, rfl, h2, h3, _⟩ := dkL_open h'
  have H0 := Lib.hid h0
  have H1 := Lib.hid h1
  have H2 := Lib.hid h2
  have H3 := Lib.hid h3
  obtain ⟨p0, c0, rfl, _⟩ := Lay.list_open h0
  obtain ⟨p1, c1, rfl, _⟩ := Lay.list_open h1
  obtain ⟨p2, c2, rfl, _⟩ := Lay.list_open h2
  obtain ⟨p3, c3, rfl, _⟩ := Lay.list_open h3
  have hS := St.start hm
  clear h h' h0 h1 h2 h3
  by_cases q1 : d.dry = e.dry
  case neg =>
    have D := Lib.hid (sameD_no (fun h : d = e => q1 (by rw [h])))
    have Q1 := Lib.hid (decide_eq_false q1)
    clear q1
    go_enter Try.func52, Try.ntmps52
    go_wp2_with (first 
    | ((with_reducible apply l_box (ty := 44) (y := (.tmp 0)) hS); (· (first | (go_simp; done) | (go_simp; with_reducible rfl))); (· exact rfl); intro w2 b2 hS1; replace hS := hS1; clear hS1)
    | ((with_reducible apply l_box (ty := 44) (y := (.tmp 1)) hS); (· (first | (go_simp; done) | (go_simp; with_reducible rfl))); (· exact rfl); intro w3 b3 hS1; replace hS := hS1; clear hS1)
    | ((with_reducible apply l_load hS); (· (first | exact Try.underlying3 | exact Try.underlying4 | exact Try.underlying22 | exact Try.underlying42)); (· exact rfl); (· exact rfl); (· (first | (apply Find.box; (· (repeat (first | exact List.Mem.head _ | apply List.Mem.tail))); rfl) | exact Find.mem (by assumption) | (refine Find.row (by (repeat (first | exact List.Mem.head _ | apply List.Mem.tail))) ?_; assumption))))
    | ((with_reducible apply g_load hS); (· (first | exact Try.underlying3 | exact Try.underlying4 | exact Try.underlying22 | exact Try.underlying42)); (· exact rfl); (· (first | rfl | (go_simp; done))); (· exact rfl); (· (first | (apply Find.box; (· (repeat (first | exact List.Mem.head _ | apply List.Mem.tail))); rfl) | exact Find.mem (by assumption) | (refine Find.row (by (repeat (first | exact List.Mem.head _ | apply List.Mem.tail))) ?_; assumption))))
      | (go_at_call 85; refine (beq_c _ _ hS.inw _ _ _ _ H0.out H2.out).mono ?_; rintro e' w10 ⟨rfl, rfl⟩; rw [Q1.out])
      | (go_at_call 86; refine (eqf_c _ _ hS.inw _ _ _ _ H1.out H3.out).mono ?_; rintro e' w17 ⟨v17, m17, rfl, rfl, hk⟩; rw [Q2.out]; replace hS := hS.call hk; clear hk))
    go_ret
    exact ⟨_, _, rfl, by rw [D.out] <;> rfl, hS.done⟩
  have Q1 := Lib.hid (decide_eq_true q1)
  have QQ1 := Lib.hid q1
  clear q1
  by_cases q2 : d.wet = e.wet
  case neg =>
    have D := Lib.hid (sameD_no (fun h : d = e => q2 (by rw [h])))
    have Q2 := Lib.hid (decide_eq_false q2)
    clear q2
    go_enter Try.func52, Try.ntmps52
    go_wp2_with (first 
    | ((with_reducible apply l_box (ty := 44) (y := (.tmp 0)) hS); (· (first | (go_simp; done) | (go_simp; with_reducible rfl))); (· exact rfl); intro w2 b2 hS1; replace hS := hS1; clear hS1)
    | ((with_reducible apply l_box (ty := 44) (y := (.tmp 1)) hS); (· (first | (go_simp; done) | (go_simp; with_reducible rfl))); (· exact rfl); intro w3 b3 hS1; replace hS := hS1; clear hS1)
    | ((with_reducible apply l_load hS); (· (first | exact Try.underlying3 | exact Try.underlying4 | exact Try.underlying22 | exact Try.underlying42)); (· exact rfl); (· exact rfl); (· (first | (apply Find.box; (· (repeat (first | exact List.Mem.head _ | apply List.Mem.tail))); rfl) | exact Find.mem (by assumption) | (refine Find.row (by (repeat (first | exact List.Mem.head _ | apply List.Mem.tail))) ?_; assumption))))
    | ((with_reducible apply g_load hS); (· (first | exact Try.underlying3 | exact Try.underlying4 | exact Try.underlying22 | exact Try.underlying42)); (· exact rfl); (· (first | rfl | (go_simp; done))); (· exact rfl); (· (first | (apply Find.box; (· (repeat (first | exact List.Mem.head _ | apply List.Mem.tail))); rfl) | exact Find.mem (by assumption) | (refine Find.row (by (repeat (first | exact List.Mem.head _ | apply List.Mem.tail))) ?_; assumption))))
      | (go_at_call 85; refine (beq_c _ _ hS.inw _ _ _ _ H0.out H2.out).mono ?_; rintro e' w10 ⟨rfl, rfl⟩; rw [Q1.out])
      | (go_at_call 86; refine (eqf_c _ _ hS.inw _ _ _ _ H1.out H3.out).mono ?_; rintro e' w17 ⟨v17, m17, rfl, rfl, hk⟩; rw [Q2.out]; replace hS := hS.call hk; clear hk))
    go_ret
    exact ⟨_, _, rfl, by rw [D.out] <;> rfl, hS.done⟩
  have Q2 := Lib.hid (decide_eq_true q2)
  have QQ2 := Lib.hid q2
  clear q2
  by_cases q3 : d.fuse = e.fuse
  case neg =>
    have D := Lib.hid (sameD_no (fun h : d = e => q3 (by rw [h])))
    have Q3 : (d.fuse == e.fuse) = false := by simpa using q3
    clear q3
    go_enter Try.func52, Try.ntmps52
    go_wp2_with (first 
    | ((with_reducible apply l_box (ty := 44) (y := (.tmp 0)) hS); (· (first | (go_simp; done) | (go_simp; with_reducible rfl))); (· exact rfl); intro w2 b2 hS1; replace hS := hS1; clear hS1)
    | ((with_reducible apply l_box (ty := 44) (y := (.tmp 1)) hS); (· (first | (go_simp; done) | (go_simp; with_reducible rfl))); (· exact rfl); intro w3 b3 hS1; replace hS := hS1; clear hS1)
    | ((with_reducible apply l_load hS); (· (first | exact Try.underlying3 | exact Try.underlying4 | exact Try.underlying22 | exact Try.underlying42)); (· exact rfl); (· exact rfl); (· (first | (apply Find.box; (· (repeat (first | exact List.Mem.head _ | apply List.Mem.tail))); rfl) | exact Find.mem (by assumption) | (refine Find.row (by (repeat (first | exact List.Mem.head _ | apply List.Mem.tail))) ?_; assumption))))
    | ((with_reducible apply g_load hS); (· (first | exact Try.underlying3 | exact Try.underlying4 | exact Try.underlying22 | exact Try.underlying42)); (· exact rfl); (· (first | rfl | (go_simp; done))); (· exact rfl); (· (first | (apply Find.box; (· (repeat (first | exact List.Mem.head _ | apply List.Mem.tail))); rfl) | exact Find.mem (by assumption) | (refine Find.row (by (repeat (first | exact List.Mem.head _ | apply List.Mem.tail))) ?_; assumption))))
      | (go_at_call 85; refine (beq_c _ _ hS.inw _ _ _ _ H0.out H2.out).mono ?_; rintro e' w10 ⟨rfl, rfl⟩; rw [Q1.out])
      | (go_at_call 86; refine (eqf_c _ _ hS.inw _ _ _ _ H1.out H3.out).mono ?_; rintro e' w17 ⟨v17, m17, rfl, rfl, hk⟩; rw [Q2.out]; replace hS := hS.call hk; clear hk))
    go_ret
    exact ⟨_, _, rfl, by rw [D.out] <;> rfl, hS.done⟩
  have Q3 : (d.fuse == e.fuse) = true := by simpa using q3
  have QQ3 := Lib.hid q3
  clear q3
  by_cases q4 : d.dead = e.dead
  case neg =>
    have D := Lib.hid (sameD_no (fun h : d = e => q4 (by rw [h])))
    have hq : (d.dead = true ∧ e.dead = false) ∨ (d.dead = false ∧ e.dead = true) := by
      cases hd : d.dead <;> cases he : e.dead <;> simp_all
    clear q4
    rcases hq with ⟨h1, h2⟩ | ⟨h1, h2⟩
    all_goals
     rw [h1, h2]
     clear h1 h2
     go_enter Try.func52, Try.ntmps52
     go_wp2_with (first 
    | ((with_reducible apply l_box (ty := 44) (y := (.tmp 0)) hS); (· (first | (go_simp; done) | (go_simp; with_reducible rfl))); (· exact rfl); intro w2 b2 hS1; replace hS := hS1; clear hS1)
    | ((with_reducible apply l_box (ty := 44) (y := (.tmp 1)) hS); (· (first | (go_simp; done) | (go_simp; with_reducible rfl))); (· exact rfl); intro w3 b3 hS1; replace hS := hS1; clear hS1)
    | ((with_reducible apply l_load hS); (· (first | exact Try.underlying3 | exact Try.underlying4 | exact Try.underlying22 | exact Try.underlying42)); (· exact rfl); (· exact rfl); (· (first | (apply Find.box; (· (repeat (first | exact List.Mem.head _ | apply List.Mem.tail))); rfl) | exact Find.mem (by assumption) | (refine Find.row (by (repeat (first | exact List.Mem.head _ | apply List.Mem.tail))) ?_; assumption))))
    | ((with_reducible apply g_load hS); (· (first | exact Try.underlying3 | exact Try.underlying4 | exact Try.underlying22 | exact Try.underlying42)); (· exact rfl); (· (first | rfl | (go_simp; done))); (· exact rfl); (· (first | (apply Find.box; (· (repeat (first | exact List.Mem.head _ | apply List.Mem.tail))); rfl) | exact Find.mem (by assumption) | (refine Find.row (by (repeat (first | exact List.Mem.head _ | apply List.Mem.tail))) ?_; assumption))))
       | (go_at_call 85; refine (beq_c _ _ hS.inw _ _ _ _ H0.out H2.out).mono ?_; rintro e' w10 ⟨rfl, rfl⟩; rw [Q1.out])
       | (go_at_call 86; refine (eqf_c _ _ hS.inw _ _ _ _ H1.out H3.out).mono ?_; rintro e' w17 ⟨v17, m17, rfl, rfl, hk⟩; rw [Q2.out]; replace hS := hS.call hk; clear hk))
     go_ret
     exact ⟨_, _, rfl, by rw [D.out] <;> rfl, hS.done⟩
  have QQ4 := Lib.hid q4
  rw [← q4]
  clear q4
  have D := Lib.hid (sameD_true QQ1.out QQ2.out QQ3.out QQ4.out)
  go_enter Try.func52, Try.ntmps52
  go_wp2_with (first 
    | ((with_reducible apply l_box (ty := 44) (y := (.tmp 0)) hS); (· (first | (go_simp; done) | (go_simp; with_reducible rfl))); (· exact rfl); intro w2 b2 hS1; replace hS := hS1; clear hS1)
    | ((with_reducible apply l_box (ty := 44) (y := (.tmp 1)) hS); (· (first | (go_simp; done) | (go_simp; with_reducible rfl))); (· exact rfl); intro w3 b3 hS1; replace hS := hS1; clear hS1)
    | ((with_reducible apply l_load hS); (· (first | exact Try.underlying3 | exact Try.underlying4 | exact Try.underlying22 | exact Try.underlying42)); (· exact rfl); (· exact rfl); (· (first | (apply Find.box; (· (repeat (first | exact List.Mem.head _ | apply List.Mem.tail))); rfl) | exact Find.mem (by assumption) | (refine Find.row (by (repeat (first | exact List.Mem.head _ | apply List.Mem.tail))) ?_; assumption))))
    | ((with_reducible apply g_load hS); (· (first | exact Try.underlying3 | exact Try.underlying4 | exact Try.underlying22 | exact Try.underlying42)); (· exact rfl); (· (first | rfl | (go_simp; done))); (· exact rfl); (· (first | (apply Find.box; (· (repeat (first | exact List.Mem.head _ | apply List.Mem.tail))); rfl) | exact Find.mem (by assumption) | (refine Find.row (by (repeat (first | exact List.Mem.head _ | apply List.Mem.tail))) ?_; assumption))))
      | (go_at_call 85; refine (beq_c _ _ hS.inw _ _ _ _ H0.out H2.out).mono ?_; rintro e' w10 ⟨rfl, rfl⟩; rw [Q1.out])
      | (go_at_call 86; refine (eqf_c _ _ hS.inw _ _ _ _ H1.out H3.out).mono ?_; rintro e' w17 ⟨v17, m17, rfl, rfl, hk⟩; rw [Q2.out]; replace hS := hS.call hk; clear hk))
  go_ret
  exact ⟨_, _, rfl, by rw [D.out] <;> rfl, hS.done⟩
end Go.Proofs.Ytnmgiiaejpaeeaa
/- Contract over the state of a walk: the law's live. -/
namespace Go.Proofs.Ytnmgiiaejpaeeaa
set_option linter.unusedVariables false
set_option linter.unusedSimpArgs false
open Go.RowKit Go.Shelf
section
variable {P : Program} {X : List Nat} {w0 w : World} {m0 m : Mem} {es : List Ent}
theorem s_loads {ops : Array Oper} {a : Act} {K : Act → World → Prop} {Q : Exit → Act → World → Prop} {dst : Option Tmp} {rt : TypeId} {pos : String} {af : Array Edge} {E : Prop} {ty : TypeId} {x : Operand} (hS : St X w0 m0 w es m) {n : Nat} (hn : ∃ d, P.underlying ty = some d ∧ d.isRow = true ∧ (P.info? ty).map (·.size) = some n) {b off : Nat} (hx : a.eval x = .pointer (some ⟨b, off, none⟩)) {vs : List Value} (hv : Finds es m b off n vs)
    (h : K (a.put dst (.agg vs.toArray)) w) : if Region.wanted ⟨dst, .load ty x, rt, pos, af, none⟩ (yielded ops a.tmps) = true then Oper.wp P ⟨dst, .load ty x, rt, pos, af, none⟩ a w K Q else E := by
  obtain ⟨d, hu, hd, hn⟩ := hn
  exact step_of rfl (a_loads hS ty x rfl hu hd n hn hx hv h)
end
theorem Sx.le {m m' : Mem} {bs : List (Nat × List Value)} {w : World} (h : m.Le m') (k : Sx m' bs w) : Sx m bs w := ⟨fun a v hv => k.1 a v (h a v hv), k.2⟩
theorem one_u8 {m : Mem} {b : Nat} {c : Int} (h : ∀ j v, [Value.int .u8 c][j]? = some v → m ⟨b, j, none⟩ = some v) (hc : InK .u8 c) : bytesL.rd m [.slice (some ⟨b, 0, none⟩) 1 1] [c] := by
  refine ⟨_, 1, rfl, Nat.le_refl _, by simp [maxLen], by simp [Lay.int, kBytes], fun _ => ⟨b, 0, rfl, fun i x hx => ?_⟩⟩
  cases i with
  | zero =>
    cases hx
    refine ⟨[.int .u8 c], ⟨rfl, hc⟩, fun j v hj => ?_⟩
    rw [show (0 : Nat) + 0 * (Lay.int .u8).n + j = j by simp]
    exact h j v hj
  | succ i => cases hx
theorem inK_one : InK .u8 1 := by simp [InK, IntKind.min, IntKind.max, IntKind.signed, IntKind.bits]
def lv1 : Dk := writeD (newD 2) 1 (List.replicate 32 7)
def lv2 : Dk := flushD lv1
def lv3 : Dk := writeD lv2 1 (List.replicate 32 9)
def lv4 : Dk := crashD lv3 [1]
theorem lv_e1 : newE 2 = 0 := by decide +kernel
theorem lv_e2 : writeE (newD 2) 1 (List.replicate 32 7) = 0 := by decide +kernel
theorem lv_e3 : flushE lv1 = 0 := by decide +kernel
theorem lv_e4 : writeE lv2 1 (List.replicate 32 9) = 0 := by decide +kernel
theorem lv_e5 : checkE lv3 = 0 := by decide +kernel
theorem lv_e6 : readE lv4 1 = 0 := by decide +kernel
theorem lv_b : readB lv4 1 = 9 :: 7 :: List.replicate 30 7 := by decide +kernel
set_option maxRecDepth 100000 in
set_option maxHeartbeats 4000000 in
theorem live_c (m : Mem) (w : World) (hm : m.In w) :
    Calls Try.prog 33 #[] w (Ret w m fun v _ => v = .bool true) := by
  have hS := St.start hm
  have i2 : InK .i64 2 := inK64 (by decide) (by decide)
  have h7 : InK .u8 7 := by simp [InK, IntKind.min, IntKind.max, IntKind.signed, IntKind.bits]
  have h9 : InK .u8 9 := by simp [InK, IntKind.min, IntKind.max, IntKind.signed, IntKind.bits]
  have I1 := Lib.hid (inK64 (x := 1) (by decide) (by decide))
  have I7 := Lib.hid h7
  have I9 := Lib.hid h9
  clear i2 h7 h9
  go_enter Try.func33, Try.ntmps33
  go_wp2_with (first 
    | ((with_reducible apply l_alloc (ty := 44) (dst := some 1) hS (.agg #[.slice none 0 0, .slice none 0 0, .int .i64 0, .bool false]) [.slice none 0 0, .slice none 0 0, .int .i64 0, .bool false]); (· kernel_rfl); (· rfl); intro w1 b1 hS1; replace hS := hS1; clear hS1)
    | ((with_reducible apply l_load hS); (· (first | exact Try.underlying5)); (· exact rfl); (· exact rfl); (· (first | (apply Find.box; (· (repeat (first | exact List.Mem.head _ | apply List.Mem.tail))); rfl) | exact Find.mem (by assumption) | (refine Find.row (by (repeat (first | exact List.Mem.head _ | apply List.Mem.tail))) ?_; assumption))))
    | ((with_reducible apply g_load hS); (· (first | exact Try.underlying5)); (· exact rfl); (· (first | rfl | (go_simp; done))); (· exact rfl); (· (first | (apply Find.box; (· (repeat (first | exact List.Mem.head _ | apply List.Mem.tail))); rfl) | exact Find.mem (by assumption) | (refine Find.row (by (repeat (first | exact List.Mem.head _ | apply List.Mem.tail))) ?_; assumption))))
    | ((with_reducible apply l_loads hS); (· (first | exact (show ∃ d, Try.prog.underlying 44 = some d ∧ d.isRow = true ∧ (Try.prog.info? 44).map (·.size) = some 4 from ⟨_, Try.underlying44, rfl, by kernel_rfl⟩))); (· exact rfl); (· (first | (apply Finds.box; (· (repeat (first | exact List.Mem.head _ | apply List.Mem.tail))); (· (repeat (first | exact SubL.stop | apply SubL.take | apply SubL.skip))); done) | (refine Finds.mem2 (by assumption) ?_; first | rfl | assumption | (simp; done)) | (apply Finds.row; (· (repeat (first | exact List.Mem.head _ | apply List.Mem.tail))); (· assumption); (· rfl)))))
    | ((with_reducible apply g_loads hS); (· (first | exact (show ∃ d, Try.prog.underlying 44 = some d ∧ d.isRow = true ∧ (Try.prog.info? 44).map (·.size) = some 4 from ⟨_, Try.underlying44, rfl, by kernel_rfl⟩))); (· (first | rfl | (go_simp; done))); (· exact rfl); (· (first | (apply Finds.box; (· (repeat (first | exact List.Mem.head _ | apply List.Mem.tail))); (· (repeat (first | exact SubL.stop | apply SubL.take | apply SubL.skip))); done) | (refine Finds.mem2 (by assumption) ?_; first | rfl | assumption | (simp; done)) | (apply Finds.row; (· (repeat (first | exact List.Mem.head _ | apply List.Mem.tail))); (· assumption); (· rfl)))))
    | ((with_reducible apply l_stores hS); (· (first | exact (show ∃ d, Try.prog.underlying 44 = some d ∧ d.isRow = true ∧ (Try.prog.info? 44).map (·.size) = some 4 from ⟨_, Try.underlying44, rfl, by kernel_rfl⟩))); (· exact rfl); (· exact rfl); (· exact rfl); (· (first | assumption | (simp [Value.oneCell']; done))); (· (repeat (first | exact List.Mem.head _ | apply List.Mem.tail))); (· (repeat (first | exact SetsL.stop | apply SetsL.put | apply SetsL.skip))); (· (repeat (first | exact UpdB.head | apply UpdB.tail))); intro ws hS1; replace hS := hS1; clear hS1)
    | (go_at_call 34; refine (new_c _ _ hS.inw 2).mono ?_; rintro e' w10 ⟨v10, m1, rfl, ⟨cs1, rfl, hr1⟩, hk⟩; replace hS := hS.call hk; clear hk; have R1 := Lib.hid hr1; have hone := dkL.one hr1; obtain ⟨x0, x1, rfl, _⟩ := dkL_open hr1; rw [lv_e1]; clear hr1))
  replace hS := hS.drew
  refine startL (S := Sx _ []) (by kernel_rfl) hS.sx0 (fun _ _ _ _ => trivial) (fun hHeld => ?_)
  refine wpAnyH_ready (rs := [0, 1]) (by kernel_rfl) (by simp) ?_
  refine consL 0 rfl (fun K hK => ?_) (consL 1 rfl (fun K hK => ?_) AllReadyH.nil)
  rotate_right
  focus
    rw [if_pos (by rfl)]; go_simp; refine (sector_c _ _ hS.inw 7 I7.out).mono ?_; rintro e' w15 ⟨v15, m2, rfl, hr2, hk⟩; replace hS := hS.call hk; have hle := hk.le; clear hk; have R2 := Lib.hid hr2; clear hr2; go_wp2_with fail
    refine hK.out _ _ (by first | exact hS.sx0 | exact Sx.le (by assumption) hS.sx0) (fun hHeld => ?_)
    clear hK K
    try simp only [Act.put, List.setIfInBounds_toArray, List.set_cons_zero, List.set_cons_succ]
    refine wpAnyH_ready (rs := [0]) (by kernel_rfl) (by simp) ?_
    refine consL 0 rfl (fun K hK => ?_) AllReadyH.nil
    (with_reducible apply s_loads hS); (· exact (show ∃ d, Try.prog.underlying 44 = some d ∧ d.isRow = true ∧ (Try.prog.info? 44).map (·.size) = some 4 from ⟨_, Try.underlying44, rfl, by kernel_rfl⟩)); (· exact rfl); (· (first | (apply Finds.box; (· (repeat (first | exact List.Mem.head _ | apply List.Mem.tail))); (· (repeat (first | exact SubL.stop | apply SubL.take | apply SubL.skip))); done) | (refine Finds.mem2 (by assumption) ?_; first | rfl | assumption | (simp; done)) | (apply Finds.row; (· (repeat (first | exact List.Mem.head _ | apply List.Mem.tail))); (· assumption); (· rfl))))
    refine hK.out _ _ (by first | exact hS.sx0 | exact Sx.le (by assumption) hS.sx0) (fun hHeld => ?_)
    clear hK K
    try simp only [Act.put, List.setIfInBounds_toArray, List.set_cons_zero, List.set_cons_succ]
    refine wpAnyH_ready (rs := [2]) (by kernel_rfl) (by simp) ?_
    refine consL 2 rfl (fun K hK => ?_) AllReadyH.nil
    rw [if_pos (by rfl)]; go_simp; refine (write_c _ _ hS.inw _ _ (dkL.mono hle R1.out) 1 I1.out _ _ R2.out).mono ?_; rintro e' w16 ⟨v16, m3, rfl, ⟨cs3, rfl, hr3⟩, hk⟩; replace hS := hS.call hk; have hle3 := hle.trans hk.le; clear hk hle; have R3 : Hid (dkL.rd m3 cs3 lv1) := hr3; rw [lv_e2]; obtain ⟨x2, x3, rfl, _⟩ := dkL_open R3.out; have hone3 := dkL.one R3.out; clear hr3; go_wp2_with fail
    refine hK.out _ _ (by first | exact hS.sx0 | exact Sx.le (by assumption) hS.sx0) (fun hHeld => ?_)
    clear hK K
    try simp only [Act.put, List.setIfInBounds_toArray, List.set_cons_zero, List.set_cons_succ]
    focus (refine takeL 3 (v := ?_) rfl (by kernel_rfl) (by kernel_rfl) (by kernel_rfl) (fun _ _ _ h => h) (by assumption) (by first | rfl | (go_simp <;> fail)) ?_ ?_; rotate_left; focus (intro w hSw; clear hSw; go_simp; try with_reducible rfl))
    try simp only [Act.put, List.setIfInBounds_toArray, List.set_cons_zero, List.set_cons_succ]
    focus (refine takeL 4 (v := ?_) rfl (by kernel_rfl) (by kernel_rfl) (by kernel_rfl) (fun _ _ _ h => h) (by assumption) (by first | rfl | (go_simp <;> fail)) ?_ ?_; rotate_left; focus (intro w hSw; clear hSw; go_simp; try with_reducible rfl))
    try simp only [Act.put, List.setIfInBounds_toArray, List.set_cons_zero, List.set_cons_succ]
    focus (refine takeL 5 (v := ?_) rfl (by kernel_rfl) (by kernel_rfl) (by kernel_rfl) (fun _ _ _ h => h) (by assumption) (by first | rfl | (go_simp <;> fail)) ?_ ?_; rotate_left; focus (intro w hSw; clear hSw; go_simp; try with_reducible rfl))
    try simp only [Act.put, List.setIfInBounds_toArray, List.set_cons_zero, List.set_cons_succ]
    refine wpAnyH_ready (rs := [6]) (by kernel_rfl) (by simp) ?_
    refine consL 6 rfl (fun K hK => ?_) AllReadyH.nil
    (with_reducible apply s_stores hS); (· exact (show ∃ d, Try.prog.underlying 44 = some d ∧ d.isRow = true ∧ (Try.prog.info? 44).map (·.size) = some 4 from ⟨_, Try.underlying44, rfl, by kernel_rfl⟩)); (· exact rfl); (· exact rfl); (· exact rfl); (· (first | assumption | (simp [Value.oneCell']; done))); (· (repeat (first | exact List.Mem.head _ | apply List.Mem.tail))); (· (repeat (first | exact SetsL.stop | apply SetsL.put | apply SetsL.skip))); (· (repeat (first | exact UpdB.head | apply UpdB.tail))); intro ws hS1; replace hS := hS1; clear hS1
    refine hK.out _ _ (by first | exact hS.sx0 | exact Sx.le (by assumption) hS.sx0) (fun hHeld => ?_)
    clear hK K
    try simp only [Act.put, List.setIfInBounds_toArray, List.set_cons_zero, List.set_cons_succ]
    focus (refine takeL 7 (v := ?_) rfl (by kernel_rfl) (by kernel_rfl) (by kernel_rfl) (fun _ _ _ h => h) (by assumption) (by first | rfl | (go_simp <;> fail)) ?_ ?_; rotate_left; focus (intro w hSw; clear hSw; go_simp; try with_reducible rfl))
    try simp only [Act.put, List.setIfInBounds_toArray, List.set_cons_zero, List.set_cons_succ]
    refine wpAnyH_done (by kernel_rfl) ?_ _
    refine NoPanic.normal ?_
  rotate_right
  focus
    (with_reducible apply s_loads hS); (· exact (show ∃ d, Try.prog.underlying 44 = some d ∧ d.isRow = true ∧ (Try.prog.info? 44).map (·.size) = some 4 from ⟨_, Try.underlying44, rfl, by kernel_rfl⟩)); (· exact rfl); (· (first | (apply Finds.box; (· (repeat (first | exact List.Mem.head _ | apply List.Mem.tail))); (· (repeat (first | exact SubL.stop | apply SubL.take | apply SubL.skip))); done) | (refine Finds.mem2 (by assumption) ?_; first | rfl | assumption | (simp; done)) | (apply Finds.row; (· (repeat (first | exact List.Mem.head _ | apply List.Mem.tail))); (· assumption); (· rfl))))
    refine hK.out _ _ (by first | exact hS.sx0 | exact Sx.le (by assumption) hS.sx0) (fun hHeld => ?_)
    clear hK K
    try simp only [Act.put, List.setIfInBounds_toArray, List.set_cons_zero, List.set_cons_succ]
    refine wpAnyH_ready (rs := [1]) (by kernel_rfl) (by simp) ?_
    refine consL 1 rfl (fun K hK => ?_) AllReadyH.nil
    rw [if_pos (by rfl)]; go_simp; refine (sector_c _ _ hS.inw 7 I7.out).mono ?_; rintro e' w15 ⟨v15, m2, rfl, hr2, hk⟩; replace hS := hS.call hk; have hle := hk.le; clear hk; have R2 := Lib.hid hr2; clear hr2; go_wp2_with fail
    refine hK.out _ _ (by first | exact hS.sx0 | exact Sx.le (by assumption) hS.sx0) (fun hHeld => ?_)
    clear hK K
    try simp only [Act.put, List.setIfInBounds_toArray, List.set_cons_zero, List.set_cons_succ]
    refine wpAnyH_ready (rs := [2]) (by kernel_rfl) (by simp) ?_
    refine consL 2 rfl (fun K hK => ?_) AllReadyH.nil
    rw [if_pos (by rfl)]; go_simp; refine (write_c _ _ hS.inw _ _ (dkL.mono hle R1.out) 1 I1.out _ _ R2.out).mono ?_; rintro e' w16 ⟨v16, m3, rfl, ⟨cs3, rfl, hr3⟩, hk⟩; replace hS := hS.call hk; have hle3 := hle.trans hk.le; clear hk hle; have R3 : Hid (dkL.rd m3 cs3 lv1) := hr3; rw [lv_e2]; obtain ⟨x2, x3, rfl, _⟩ := dkL_open R3.out; have hone3 := dkL.one R3.out; clear hr3; go_wp2_with fail
    refine hK.out _ _ (by first | exact hS.sx0 | exact Sx.le (by assumption) hS.sx0) (fun hHeld => ?_)
    clear hK K
    try simp only [Act.put, List.setIfInBounds_toArray, List.set_cons_zero, List.set_cons_succ]
    focus (refine takeL 3 (v := ?_) rfl (by kernel_rfl) (by kernel_rfl) (by kernel_rfl) (fun _ _ _ h => h) (by assumption) (by first | rfl | (go_simp <;> fail)) ?_ ?_; rotate_left; focus (intro w hSw; clear hSw; go_simp; try with_reducible rfl))
    try simp only [Act.put, List.setIfInBounds_toArray, List.set_cons_zero, List.set_cons_succ]
    focus (refine takeL 4 (v := ?_) rfl (by kernel_rfl) (by kernel_rfl) (by kernel_rfl) (fun _ _ _ h => h) (by assumption) (by first | rfl | (go_simp <;> fail)) ?_ ?_; rotate_left; focus (intro w hSw; clear hSw; go_simp; try with_reducible rfl))
    try simp only [Act.put, List.setIfInBounds_toArray, List.set_cons_zero, List.set_cons_succ]
    focus (refine takeL 5 (v := ?_) rfl (by kernel_rfl) (by kernel_rfl) (by kernel_rfl) (fun _ _ _ h => h) (by assumption) (by first | rfl | (go_simp <;> fail)) ?_ ?_; rotate_left; focus (intro w hSw; clear hSw; go_simp; try with_reducible rfl))
    try simp only [Act.put, List.setIfInBounds_toArray, List.set_cons_zero, List.set_cons_succ]
    refine wpAnyH_ready (rs := [6]) (by kernel_rfl) (by simp) ?_
    refine consL 6 rfl (fun K hK => ?_) AllReadyH.nil
    (with_reducible apply s_stores hS); (· exact (show ∃ d, Try.prog.underlying 44 = some d ∧ d.isRow = true ∧ (Try.prog.info? 44).map (·.size) = some 4 from ⟨_, Try.underlying44, rfl, by kernel_rfl⟩)); (· exact rfl); (· exact rfl); (· exact rfl); (· (first | assumption | (simp [Value.oneCell']; done))); (· (repeat (first | exact List.Mem.head _ | apply List.Mem.tail))); (· (repeat (first | exact SetsL.stop | apply SetsL.put | apply SetsL.skip))); (· (repeat (first | exact UpdB.head | apply UpdB.tail))); intro ws hS1; replace hS := hS1; clear hS1
    refine hK.out _ _ (by first | exact hS.sx0 | exact Sx.le (by assumption) hS.sx0) (fun hHeld => ?_)
    clear hK K
    try simp only [Act.put, List.setIfInBounds_toArray, List.set_cons_zero, List.set_cons_succ]
    focus (refine takeL 7 (v := ?_) rfl (by kernel_rfl) (by kernel_rfl) (by kernel_rfl) (fun _ _ _ h => h) (by assumption) (by first | rfl | (go_simp <;> fail)) ?_ ?_; rotate_left; focus (intro w hSw; clear hSw; go_simp; try with_reducible rfl))
    try simp only [Act.put, List.setIfInBounds_toArray, List.set_cons_zero, List.set_cons_succ]
    refine wpAnyH_done (by kernel_rfl) ?_ _
    refine NoPanic.normal ?_
  all_goals
    clear hone hle3
    go_wp2_with (first 
    | ((with_reducible apply l_alloc (ty := 44) (dst := some 1) hS (.agg #[.slice none 0 0, .slice none 0 0, .int .i64 0, .bool false]) [.slice none 0 0, .slice none 0 0, .int .i64 0, .bool false]); (· kernel_rfl); (· rfl); intro w1 b1 hS1; replace hS := hS1; clear hS1)
    | ((with_reducible apply l_load hS); (· (first | exact Try.underlying5)); (· exact rfl); (· exact rfl); (· (first | (apply Find.box; (· (repeat (first | exact List.Mem.head _ | apply List.Mem.tail))); rfl) | exact Find.mem (by assumption) | (refine Find.row (by (repeat (first | exact List.Mem.head _ | apply List.Mem.tail))) ?_; assumption))))
    | ((with_reducible apply g_load hS); (· (first | exact Try.underlying5)); (· exact rfl); (· (first | rfl | (go_simp; done))); (· exact rfl); (· (first | (apply Find.box; (· (repeat (first | exact List.Mem.head _ | apply List.Mem.tail))); rfl) | exact Find.mem (by assumption) | (refine Find.row (by (repeat (first | exact List.Mem.head _ | apply List.Mem.tail))) ?_; assumption))))
    | ((with_reducible apply l_loads hS); (· (first | exact (show ∃ d, Try.prog.underlying 44 = some d ∧ d.isRow = true ∧ (Try.prog.info? 44).map (·.size) = some 4 from ⟨_, Try.underlying44, rfl, by kernel_rfl⟩))); (· exact rfl); (· (first | (apply Finds.box; (· (repeat (first | exact List.Mem.head _ | apply List.Mem.tail))); (· (repeat (first | exact SubL.stop | apply SubL.take | apply SubL.skip))); done) | (refine Finds.mem2 (by assumption) ?_; first | rfl | assumption | (simp; done)) | (apply Finds.row; (· (repeat (first | exact List.Mem.head _ | apply List.Mem.tail))); (· assumption); (· rfl)))))
    | ((with_reducible apply g_loads hS); (· (first | exact (show ∃ d, Try.prog.underlying 44 = some d ∧ d.isRow = true ∧ (Try.prog.info? 44).map (·.size) = some 4 from ⟨_, Try.underlying44, rfl, by kernel_rfl⟩))); (· (first | rfl | (go_simp; done))); (· exact rfl); (· (first | (apply Finds.box; (· (repeat (first | exact List.Mem.head _ | apply List.Mem.tail))); (· (repeat (first | exact SubL.stop | apply SubL.take | apply SubL.skip))); done) | (refine Finds.mem2 (by assumption) ?_; first | rfl | assumption | (simp; done)) | (apply Finds.row; (· (repeat (first | exact List.Mem.head _ | apply List.Mem.tail))); (· assumption); (· rfl)))))
    | ((with_reducible apply l_stores hS); (· (first | exact (show ∃ d, Try.prog.underlying 44 = some d ∧ d.isRow = true ∧ (Try.prog.info? 44).map (·.size) = some 4 from ⟨_, Try.underlying44, rfl, by kernel_rfl⟩))); (· exact rfl); (· exact rfl); (· exact rfl); (· (first | assumption | (simp [Value.oneCell']; done))); (· (repeat (first | exact List.Mem.head _ | apply List.Mem.tail))); (· (repeat (first | exact SetsL.stop | apply SetsL.put | apply SetsL.skip))); (· (repeat (first | exact UpdB.head | apply UpdB.tail))); intro ws hS1; replace hS := hS1; clear hS1)
      | (go_at_call 37; refine (flush_c _ _ hS.inw _ _ R3.out).mono ?_; rintro e' w21 ⟨v21, m4, rfl, ⟨cs4, rfl, hr4⟩, hk⟩; replace hS := hS.call hk; clear hk hone3; have R4 : Hid (dkL.rd m4 cs4 lv2) := hr4; rw [lv_e3]; obtain ⟨x4, x5, rfl, _⟩ := dkL_open R4.out; have hone4 := dkL.one R4.out; clear hr4))
    replace hS := hS.drew
    refine startL (S := Sx _ []) (by kernel_rfl) hS.sx0 (fun _ _ _ _ => trivial) (fun hHeld => ?_)
    refine wpAnyH_ready (rs := [0, 1]) (by kernel_rfl) (by simp) ?_
    refine consL 0 rfl (fun K hK => ?_) (consL 1 rfl (fun K hK => ?_) AllReadyH.nil)
    rotate_right
    focus
      rw [if_pos (by rfl)]; go_simp; refine (sector_c _ _ hS.inw 9 I9.out).mono ?_; rintro e' w26 ⟨v26, m5, rfl, hr5, hk⟩; replace hS := hS.call hk; have hle5 := hk.le; clear hk; have R5 := Lib.hid hr5; clear hr5; go_wp2_with fail
      refine hK.out _ _ (by first | exact hS.sx0 | exact Sx.le (by assumption) hS.sx0) (fun hHeld => ?_)
      clear hK K
      try simp only [Act.put, List.setIfInBounds_toArray, List.set_cons_zero, List.set_cons_succ]
      refine wpAnyH_ready (rs := [0]) (by kernel_rfl) (by simp) ?_
      refine consL 0 rfl (fun K hK => ?_) AllReadyH.nil
      (with_reducible apply s_loads hS); (· exact (show ∃ d, Try.prog.underlying 44 = some d ∧ d.isRow = true ∧ (Try.prog.info? 44).map (·.size) = some 4 from ⟨_, Try.underlying44, rfl, by kernel_rfl⟩)); (· exact rfl); (· (first | (apply Finds.box; (· (repeat (first | exact List.Mem.head _ | apply List.Mem.tail))); (· (repeat (first | exact SubL.stop | apply SubL.take | apply SubL.skip))); done) | (refine Finds.mem2 (by assumption) ?_; first | rfl | assumption | (simp; done)) | (apply Finds.row; (· (repeat (first | exact List.Mem.head _ | apply List.Mem.tail))); (· assumption); (· rfl))))
      refine hK.out _ _ (by first | exact hS.sx0 | exact Sx.le (by assumption) hS.sx0) (fun hHeld => ?_)
      clear hK K
      try simp only [Act.put, List.setIfInBounds_toArray, List.set_cons_zero, List.set_cons_succ]
      refine wpAnyH_ready (rs := [2]) (by kernel_rfl) (by simp) ?_
      refine consL 2 rfl (fun K hK => ?_) AllReadyH.nil
      rw [if_pos (by rfl)]; go_simp; refine (write_c _ _ hS.inw _ _ (dkL.mono hle5 R4.out) 1 I1.out _ _ R5.out).mono ?_; rintro e' w27 ⟨v27, m6, rfl, ⟨cs6, rfl, hr6⟩, hk⟩; replace hS := hS.call hk; have hle6 := hle5.trans hk.le; clear hk hle5; have R6 : Hid (dkL.rd m6 cs6 lv3) := hr6; rw [lv_e4]; obtain ⟨x6, x7, rfl, _⟩ := dkL_open R6.out; have hone6 := dkL.one R6.out; clear hr6; go_wp2_with fail
      refine hK.out _ _ (by first | exact hS.sx0 | exact Sx.le (by assumption) hS.sx0) (fun hHeld => ?_)
      clear hK K
      try simp only [Act.put, List.setIfInBounds_toArray, List.set_cons_zero, List.set_cons_succ]
      focus (refine takeL 3 (v := ?_) rfl (by kernel_rfl) (by kernel_rfl) (by kernel_rfl) (fun _ _ _ h => h) (by assumption) (by first | rfl | (go_simp <;> fail)) ?_ ?_; rotate_left; focus (intro w hSw; clear hSw; go_simp; try with_reducible rfl))
      try simp only [Act.put, List.setIfInBounds_toArray, List.set_cons_zero, List.set_cons_succ]
      focus (refine takeL 4 (v := ?_) rfl (by kernel_rfl) (by kernel_rfl) (by kernel_rfl) (fun _ _ _ h => h) (by assumption) (by first | rfl | (go_simp <;> fail)) ?_ ?_; rotate_left; focus (intro w hSw; clear hSw; go_simp; try with_reducible rfl))
      try simp only [Act.put, List.setIfInBounds_toArray, List.set_cons_zero, List.set_cons_succ]
      focus (refine takeL 5 (v := ?_) rfl (by kernel_rfl) (by kernel_rfl) (by kernel_rfl) (fun _ _ _ h => h) (by assumption) (by first | rfl | (go_simp <;> fail)) ?_ ?_; rotate_left; focus (intro w hSw; clear hSw; go_simp; try with_reducible rfl))
      try simp only [Act.put, List.setIfInBounds_toArray, List.set_cons_zero, List.set_cons_succ]
      refine wpAnyH_ready (rs := [6]) (by kernel_rfl) (by simp) ?_
      refine consL 6 rfl (fun K hK => ?_) AllReadyH.nil
      (with_reducible apply s_stores hS); (· exact (show ∃ d, Try.prog.underlying 44 = some d ∧ d.isRow = true ∧ (Try.prog.info? 44).map (·.size) = some 4 from ⟨_, Try.underlying44, rfl, by kernel_rfl⟩)); (· exact rfl); (· exact rfl); (· exact rfl); (· (first | assumption | (simp [Value.oneCell']; done))); (· (repeat (first | exact List.Mem.head _ | apply List.Mem.tail))); (· (repeat (first | exact SetsL.stop | apply SetsL.put | apply SetsL.skip))); (· (repeat (first | exact UpdB.head | apply UpdB.tail))); intro ws hS1; replace hS := hS1; clear hS1
      refine hK.out _ _ (by first | exact hS.sx0 | exact Sx.le (by assumption) hS.sx0) (fun hHeld => ?_)
      clear hK K
      try simp only [Act.put, List.setIfInBounds_toArray, List.set_cons_zero, List.set_cons_succ]
      focus (refine takeL 7 (v := ?_) rfl (by kernel_rfl) (by kernel_rfl) (by kernel_rfl) (fun _ _ _ h => h) (by assumption) (by first | rfl | (go_simp <;> fail)) ?_ ?_; rotate_left; focus (intro w hSw; clear hSw; go_simp; try with_reducible rfl))
      try simp only [Act.put, List.setIfInBounds_toArray, List.set_cons_zero, List.set_cons_succ]
      refine wpAnyH_done (by kernel_rfl) ?_ _
      refine NoPanic.normal ?_
    rotate_right
    focus
      (with_reducible apply s_loads hS); (· exact (show ∃ d, Try.prog.underlying 44 = some d ∧ d.isRow = true ∧ (Try.prog.info? 44).map (·.size) = some 4 from ⟨_, Try.underlying44, rfl, by kernel_rfl⟩)); (· exact rfl); (· (first | (apply Finds.box; (· (repeat (first | exact List.Mem.head _ | apply List.Mem.tail))); (· (repeat (first | exact SubL.stop | apply SubL.take | apply SubL.skip))); done) | (refine Finds.mem2 (by assumption) ?_; first | rfl | assumption | (simp; done)) | (apply Finds.row; (· (repeat (first | exact List.Mem.head _ | apply List.Mem.tail))); (· assumption); (· rfl))))
      refine hK.out _ _ (by first | exact hS.sx0 | exact Sx.le (by assumption) hS.sx0) (fun hHeld => ?_)
      clear hK K
      try simp only [Act.put, List.setIfInBounds_toArray, List.set_cons_zero, List.set_cons_succ]
      refine wpAnyH_ready (rs := [1]) (by kernel_rfl) (by simp) ?_
      refine consL 1 rfl (fun K hK => ?_) AllReadyH.nil
      rw [if_pos (by rfl)]; go_simp; refine (sector_c _ _ hS.inw 9 I9.out).mono ?_; rintro e' w26 ⟨v26, m5, rfl, hr5, hk⟩; replace hS := hS.call hk; have hle5 := hk.le; clear hk; have R5 := Lib.hid hr5; clear hr5; go_wp2_with fail
      refine hK.out _ _ (by first | exact hS.sx0 | exact Sx.le (by assumption) hS.sx0) (fun hHeld => ?_)
      clear hK K
      try simp only [Act.put, List.setIfInBounds_toArray, List.set_cons_zero, List.set_cons_succ]
      refine wpAnyH_ready (rs := [2]) (by kernel_rfl) (by simp) ?_
      refine consL 2 rfl (fun K hK => ?_) AllReadyH.nil
      rw [if_pos (by rfl)]; go_simp; refine (write_c _ _ hS.inw _ _ (dkL.mono hle5 R4.out) 1 I1.out _ _ R5.out).mono ?_; rintro e' w27 ⟨v27, m6, rfl, ⟨cs6, rfl, hr6⟩, hk⟩; replace hS := hS.call hk; have hle6 := hle5.trans hk.le; clear hk hle5; have R6 : Hid (dkL.rd m6 cs6 lv3) := hr6; rw [lv_e4]; obtain ⟨x6, x7, rfl, _⟩ := dkL_open R6.out; have hone6 := dkL.one R6.out; clear hr6; go_wp2_with fail
      refine hK.out _ _ (by first | exact hS.sx0 | exact Sx.le (by assumption) hS.sx0) (fun hHeld => ?_)
      clear hK K
      try simp only [Act.put, List.setIfInBounds_toArray, List.set_cons_zero, List.set_cons_succ]
      focus (refine takeL 3 (v := ?_) rfl (by kernel_rfl) (by kernel_rfl) (by kernel_rfl) (fun _ _ _ h => h) (by assumption) (by first | rfl | (go_simp <;> fail)) ?_ ?_; rotate_left; focus (intro w hSw; clear hSw; go_simp; try with_reducible rfl))
      try simp only [Act.put, List.setIfInBounds_toArray, List.set_cons_zero, List.set_cons_succ]
      focus (refine takeL 4 (v := ?_) rfl (by kernel_rfl) (by kernel_rfl) (by kernel_rfl) (fun _ _ _ h => h) (by assumption) (by first | rfl | (go_simp <;> fail)) ?_ ?_; rotate_left; focus (intro w hSw; clear hSw; go_simp; try with_reducible rfl))
      try simp only [Act.put, List.setIfInBounds_toArray, List.set_cons_zero, List.set_cons_succ]
      focus (refine takeL 5 (v := ?_) rfl (by kernel_rfl) (by kernel_rfl) (by kernel_rfl) (fun _ _ _ h => h) (by assumption) (by first | rfl | (go_simp <;> fail)) ?_ ?_; rotate_left; focus (intro w hSw; clear hSw; go_simp; try with_reducible rfl))
      try simp only [Act.put, List.setIfInBounds_toArray, List.set_cons_zero, List.set_cons_succ]
      refine wpAnyH_ready (rs := [6]) (by kernel_rfl) (by simp) ?_
      refine consL 6 rfl (fun K hK => ?_) AllReadyH.nil
      (with_reducible apply s_stores hS); (· exact (show ∃ d, Try.prog.underlying 44 = some d ∧ d.isRow = true ∧ (Try.prog.info? 44).map (·.size) = some 4 from ⟨_, Try.underlying44, rfl, by kernel_rfl⟩)); (· exact rfl); (· exact rfl); (· exact rfl); (· (first | assumption | (simp [Value.oneCell']; done))); (· (repeat (first | exact List.Mem.head _ | apply List.Mem.tail))); (· (repeat (first | exact SetsL.stop | apply SetsL.put | apply SetsL.skip))); (· (repeat (first | exact UpdB.head | apply UpdB.tail))); intro ws hS1; replace hS := hS1; clear hS1
      refine hK.out _ _ (by first | exact hS.sx0 | exact Sx.le (by assumption) hS.sx0) (fun hHeld => ?_)
      clear hK K
      try simp only [Act.put, List.setIfInBounds_toArray, List.set_cons_zero, List.set_cons_succ]
      focus (refine takeL 7 (v := ?_) rfl (by kernel_rfl) (by kernel_rfl) (by kernel_rfl) (fun _ _ _ h => h) (by assumption) (by first | rfl | (go_simp <;> fail)) ?_ ?_; rotate_left; focus (intro w hSw; clear hSw; go_simp; try with_reducible rfl))
      try simp only [Act.put, List.setIfInBounds_toArray, List.set_cons_zero, List.set_cons_succ]
      refine wpAnyH_done (by kernel_rfl) ?_ _
      refine NoPanic.normal ?_
  all_goals
    clear hone4 hle6
    go_wp2_with (first 
    | ((with_reducible apply l_alloc (ty := 44) (dst := some 1) hS (.agg #[.slice none 0 0, .slice none 0 0, .int .i64 0, .bool false]) [.slice none 0 0, .slice none 0 0, .int .i64 0, .bool false]); (· kernel_rfl); (· rfl); intro w1 b1 hS1; replace hS := hS1; clear hS1)
    | ((with_reducible apply l_load hS); (· (first | exact Try.underlying5)); (· exact rfl); (· exact rfl); (· (first | (apply Find.box; (· (repeat (first | exact List.Mem.head _ | apply List.Mem.tail))); rfl) | exact Find.mem (by assumption) | (refine Find.row (by (repeat (first | exact List.Mem.head _ | apply List.Mem.tail))) ?_; assumption))))
    | ((with_reducible apply g_load hS); (· (first | exact Try.underlying5)); (· exact rfl); (· (first | rfl | (go_simp; done))); (· exact rfl); (· (first | (apply Find.box; (· (repeat (first | exact List.Mem.head _ | apply List.Mem.tail))); rfl) | exact Find.mem (by assumption) | (refine Find.row (by (repeat (first | exact List.Mem.head _ | apply List.Mem.tail))) ?_; assumption))))
    | ((with_reducible apply l_loads hS); (· (first | exact (show ∃ d, Try.prog.underlying 44 = some d ∧ d.isRow = true ∧ (Try.prog.info? 44).map (·.size) = some 4 from ⟨_, Try.underlying44, rfl, by kernel_rfl⟩))); (· exact rfl); (· (first | (apply Finds.box; (· (repeat (first | exact List.Mem.head _ | apply List.Mem.tail))); (· (repeat (first | exact SubL.stop | apply SubL.take | apply SubL.skip))); done) | (refine Finds.mem2 (by assumption) ?_; first | rfl | assumption | (simp; done)) | (apply Finds.row; (· (repeat (first | exact List.Mem.head _ | apply List.Mem.tail))); (· assumption); (· rfl)))))
    | ((with_reducible apply g_loads hS); (· (first | exact (show ∃ d, Try.prog.underlying 44 = some d ∧ d.isRow = true ∧ (Try.prog.info? 44).map (·.size) = some 4 from ⟨_, Try.underlying44, rfl, by kernel_rfl⟩))); (· (first | rfl | (go_simp; done))); (· exact rfl); (· (first | (apply Finds.box; (· (repeat (first | exact List.Mem.head _ | apply List.Mem.tail))); (· (repeat (first | exact SubL.stop | apply SubL.take | apply SubL.skip))); done) | (refine Finds.mem2 (by assumption) ?_; first | rfl | assumption | (simp; done)) | (apply Finds.row; (· (repeat (first | exact List.Mem.head _ | apply List.Mem.tail))); (· assumption); (· rfl)))))
    | ((with_reducible apply l_stores hS); (· (first | exact (show ∃ d, Try.prog.underlying 44 = some d ∧ d.isRow = true ∧ (Try.prog.info? 44).map (·.size) = some 4 from ⟨_, Try.underlying44, rfl, by kernel_rfl⟩))); (· exact rfl); (· exact rfl); (· exact rfl); (· (first | assumption | (simp [Value.oneCell']; done))); (· (repeat (first | exact List.Mem.head _ | apply List.Mem.tail))); (· (repeat (first | exact SetsL.stop | apply SetsL.put | apply SetsL.skip))); (· (repeat (first | exact UpdB.head | apply UpdB.tail))); intro ws hS1; replace hS := hS1; clear hS1)
      | ((with_reducible apply l_lit el_u8 hS (cs := [.int .u8 1])); (· decide); (· decide); (· kernel_rfl); intro w32 b32 hS1; replace hS := hS1; clear hS1; obtain ⟨m7, hS7, hle7, hb7⟩ := hS.settleBox 0 rfl; have hrd7 := one_u8 hb7 inK_one; clear hb7; replace hS := hS7; simp only [List.eraseIdx_cons_zero] at hS; have K7 := Lib.hid hrd7; have R7 := Lib.hid (dkL.mono hle7 R6.out); clear hS7 hle7 hrd7)
      | (go_at_call 38; refine (crash_c _ _ hS.inw _ _ R7.out _ _ K7.out).mono ?_; rintro e' w33 ⟨v33, m8, rfl, ⟨cs8, rfl, hr8⟩, hk⟩; replace hS := hS.call hk; clear hk hone6; have R8 : Hid (dkL.rd m8 cs8 lv4) := hr8; rw [lv_e5]; obtain ⟨x8, x9, rfl, _⟩ := dkL_open R8.out; have hone8 := dkL.one R8.out; clear hr8)
      | (go_at_call 39; refine (read_c _ _ hS.inw _ _ R8.out 1).mono ?_; rintro e' w38 ⟨v38, m9, rfl, ⟨vb, rfl, hr9⟩, hk⟩; replace hS := hS.call hk; clear hk hone8; rw [lv_e6]; rw [lv_b] at hr9; obtain ⟨pb, cb, rfl, _, _, _, hrow⟩ := Lay.list_open hr9; obtain ⟨bb, ob, z0, z1⟩ := hrow (by simp); subst z0; obtain ⟨ca, ⟨rfl, _⟩, za⟩ := z1 0 9 rfl; obtain ⟨cc, ⟨rfl, _⟩, zc⟩ := z1 1 7 rfl; have g0 := za 0 _ rfl; have g1 := zc 0 _ rfl; clear z1 za zc hrow hr9))
  all_goals
    go_ret
    exact ⟨_, _, rfl, rfl, hS.done⟩
end Go.Proofs.Ytnmgiiaejpaeeaa
/- How the arguments of a row are opened: slices of integers. -/
namespace Go.Proofs.Ytnmgiiaejpaeeaa
set_option linter.unusedVariables false
set_option linter.unusedSimpArgs false
open Go.RowKit Go.ChangeShapes Go.WideShapes
theorem rd_opened {k : IntKind} {W : World} {x : Addr} {len cap : Nat} {zs : List Int} (hl : len ≤ cap) (hm : cap ≤ maxLen) (hz : zs.length = cap)
    (hc : ∀ i, i < zs.length → W.cell? (x.add i) = some (.int k (zs.getD i 0))) (hw : ∀ n ∈ zs, (Lit.int k n).wf = true) :
    ∃ xs : List Int, xs.length = len ∧ len ≤ cap ∧ cap ≤ maxLen ∧ Rd k W (some x) xs ∧ ∀ x ∈ xs, (Lit.int k x).wf = true := by
  refine ⟨zs.take len, by simp; omega, hl, hm, fun h0 => ?_, fun y hy => hw y (List.mem_of_mem_take hy)⟩
  simp at h0
  obtain ⟨b, o, s⟩ := x
  obtain rfl : s = none := by simpa [Addr.add] using World.cell?_spot (hc 0 (by omega))
  refine ⟨b, o, rfl, fun i hi => ?_⟩
  simp at hi
  rw [← Addr.add_lit, hc i (by omega)]
  simp [List.getD, List.getElem?_take, show i < len by omega]
theorem sized_rd {H : Type} {enc : TypeId × Value → H} {P : Program} {W : World} {base : Nat} {spare : Nat → Bool} {held : Bool} {t e : TypeId} {k : IntKind} {a : Option Addr} {len cap : Nat} {d : DataW H} {ps : List MemPlace} {ts : List TypeId} {ds : List (DataW H)} {j : Nat}
    (hsz : (DataW.weightsEach P ts ds).all (· ≤ reachBytes) = true) (ht : ts[j]? = some t) (hd : ds[j]? = some d) (hu : P.underlying t = some (.slice e)) (he : P.underlying e = some (.int k)) (hc : P.cellsOf e = 1) {B : Nat} (hB : P.bytesOf e = B)
    (h : DataW.Trod enc P W base spare held t (.slice a len cap) d ps) : len * B ≤ 140737488351232 := by
  obtain ⟨fuel, hf⟩ := h
  rcases open_ints hu he hc hf with ⟨hcs, _⟩ | ⟨x, l, c, zs, hcs, _, hl, _, hz, hx, _, _⟩
  · simp [Value.cells] at hcs
    obtain ⟨rfl, rfl, rfl⟩ := hcs
    simp
  · simp [Value.cells] at hcs
    obtain ⟨rfl, rfl, rfl⟩ := hcs
    obtain ⟨rfl, _⟩ := Prod.mk.inj hx
    have z := sized_slice hsz ht hd hu
    rw [hB] at z
    have h2 : len ≤ zs.length := by rw [hz]; split <;> omega
    have h1 : (lits (H := H) k (zs.take len)).length + (lits (H := H) k (zs.drop len)).length = zs.length := by simp [lits]; omega
    rw [h1] at z
    exact Nat.le_trans (Nat.mul_le_mul_right _ h2) z
theorem isB_of_wf {xs : List Int} (h : ∀ x ∈ xs, (Lit.int .u8 x).wf = true) : IsB xs := fun x hx => by
  have := h x hx
  simp [Lit.wf, IntKind.min, IntKind.max, IntKind.signed, IntKind.bits] at this
  omega
end Go.Proofs.Ytnmgiiaejpaeeaa
/- Plain laws of disks, and the arguments of the laws' walks. -/
namespace Go.Proofs.Ytnmgiiaejpaeeaa
set_option linter.unusedVariables false
set_option linter.unusedSimpArgs false
open Go.RowKit Go.Shelf
theorem l_unwanted {P : Program} {ops : Array Oper} {Q : Exit → Act → World → Prop} {a : Act} {w : World} {rest : List Oper} {dst : Option Tmp} {op : Op} {rt : TypeId} {pos : String} {af : Array Edge} {g : Nat × Bool}
    (hw : Region.wanted ⟨dst, op, rt, pos, af, some g⟩ (yielded ops a.tmps) = false) (h : wpList P ops Q rest (a.put dst undef) w) : wpList P ops Q (⟨dst, op, rt, pos, af, some g⟩ :: rest) a w := wpList_skip hw h
/-- A disk lies at v. -/
def RdArg (w : World) (v : Value) (d : Dk) : Prop := ∃ cs, v = .agg cs.toArray ∧ dkL.rd (World.mem w) cs d
theorem bytes_arg {w : World} {p : Option Addr} {c : Nat} {xs : List Int} (hr : Rd .u8 w p xs) (hw : ∀ x ∈ xs, (Lit.int .u8 x).wf = true) (hc : xs.length ≤ c) (hm : c ≤ maxLen) (hy : xs.length * 1 ≤ 140737488351232) : bytesL.rd (World.mem w) [.slice p xs.length c] xs :=
  ⟨p, c, rfl, hc, hm, by simp [Lay.int, kBytes]; omega, rowInt (isB_inK (isB_of_wf hw)) fun h0 => hr h0⟩
theorem settled_length {d : Dk} (h : checkOK d) (many : Nat → Nat) (hm : ∀ i, many i ≤ 32) : (settleAt many 0 d.wet d.dry).length = d.dry.length :=
  settleAt_length many d.dry.length hm d.wet 0 d.dry rfl fun x hx => (placed_of_ok h x hx).2
theorem alive_zero {d : Dk} (h : aliveE d = 0) : checkOK d ∧ d.dead = false := by
  unfold aliveE at h
  split at h
  · rename_i hk
    split at h
    · cases h
    · exact ⟨hk, by simpa using ‹¬ d.dead = true›⟩
  · cases h
theorem alive_of_ok {d : Dk} (h : checkOK d) (hd : d.dead = false) : aliveE d = 0 := by
  unfold aliveE; rw [if_pos h, hd]; rfl
theorem ok_settled {d : Dk} (h : checkOK d) (many : Nat → Nat) (hm : ∀ i, many i ≤ 32) (f : Int) (b : Bool) (h1 : -1 ≤ f) (h2 : f ≤ 1073741824) : checkOK ⟨settleAt many 0 d.wet d.dry, [], f, b⟩ := by
  have hl := settled_length h many hm
  obtain ⟨k1, k2, k3, k4, k5, k6, k7⟩ := h
  exact ⟨by rw [hl]; exact k1, by rw [hl]; exact k2, by rw [hl]; exact k3, by simp, rfl, h1, h2⟩
theorem crash_ok {d : Dk} (h : checkOK d) (keep : List Int) : crashD d keep = ⟨settleAt (keepN keep) 0 d.wet d.dry, [], -1, false⟩ := if_pos h
theorem crash_check {d : Dk} (h : checkOK d) (keep : List Int) : checkOK (crashD d keep) := by
  rw [crash_ok h]; exact ok_settled h _ (keepN_le keep) _ _ (by omega) (by omega)
theorem crash_twice {d : Dk} (h : checkOK d) (k k' : List Int) : crashD (crashD d k) k' = crashD d k := by
  rw [crash_ok (crash_check h k), crash_ok h]; rfl
theorem flush_zero {d : Dk} (h : flushE d = 0) : checkOK d ∧ d.dead = false ∧ d.fuse ≠ 0 ∧ flushD d = ⟨settleAt (fun _ => 32) 0 d.wet d.dry, [], (if d.fuse = -1 then -1 else d.fuse - 1), false⟩ := by
  unfold flushE at h
  split at h
  · rename_i ha
    obtain ⟨hk, hd⟩ := alive_zero ha
    have hf : d.fuse ≠ 0 := by
      intro e
      unfold deedE at h
      rw [if_pos e] at h
      cases h
    refine ⟨hk, hd, hf, ?_⟩
    unfold flushD deedD
    rw [if_pos ha, if_neg hf, hd]
    rfl
  · contradiction
theorem flush_ok {d : Dk} (h : flushE d = 0) : checkOK (flushD d) ∧ (flushD d).dead = false ∧ (flushD d).wet = [] := by
  obtain ⟨hk, hd, hf, e⟩ := flush_zero h
  rw [e]
  refine ⟨ok_settled hk _ (fun _ => Nat.le_refl _) _ _ ?_ ?_, rfl, rfl⟩
  all_goals
    have := hk.2.2.2.2.2
    split <;> omega
theorem flush_twice {d : Dk} (h : flushE d = 0) : (flushE (flushD d) = 0 ∧ (flushD (flushD d)).dry = (flushD d).dry) ∨ (flushE (flushD d) = 11 ∧ (flushD d).fuse = 0) := by
  obtain ⟨h1, h2, h3⟩ := flush_ok h
  have ha := alive_of_ok h1 h2
  by_cases hf : (flushD d).fuse = 0
  · right
    exact ⟨by unfold flushE deedE; rw [if_pos ha, if_pos hf], hf⟩
  · left
    have he : flushE (flushD d) = 0 := by unfold flushE deedE; rw [if_pos ha, if_neg hf]
    refine ⟨he, ?_⟩
    rw [(flush_zero he).2.2.2, h3]
    rfl
end Go.Proofs.Ytnmgiiaejpaeeaa
/- The rules of the walk with a closed conclusion: the goal is not reckoned out when a rule is tried. -/
namespace Go.Proofs.Ytnmgiiaejpaeeaa
set_option linter.unusedVariables false
set_option linter.unusedSimpArgs false
open Go.RowKit
variable {ops : Array Oper} {P : Program} {X : List Nat} {w0 w : World} {m0 m : Mem} {es : List Ent} {o : Oper} {a : Act} {K : Act → World → Prop} {Q : Exit → Act → World → Prop}
variable {rest : List Oper} {dst : Option Tmp} {rt : TypeId} {pos : String} {af : Array Edge} {E : Prop} {g : Nat × Bool}
inductive Wl (P : Program) (ops : Array Oper) (Q : Exit → Act → World → Prop) (l : List Oper) (a : Act) (w : World) : Prop
  | mk : wpList P ops Q l a w → Wl P ops Q l a w
theorem Wl.out {l : List Oper} (h : Wl P ops Q l a w) : wpList P ops Q l a w := by cases h; assumption
theorem wl_box {ty : TypeId} {y : Operand} (hS : St X w0 m0 w es m) {cs : List Value} {v : Value} (hy : a.eval y = v) (hc : v.cells = cs.toArray) (h : ∀ w' b, St X w0 m0 w' (.box b cs :: es) m → wpList P ops Q rest (a.put dst (.pointer (some ⟨b, 0, none⟩))) w') : Wl P ops Q (⟨dst, .box ty y, rt, pos, af, none⟩ :: rest) a w := ⟨(
  wpList_plain rfl fun K hK => op_box hS ty y rfl cs (by rw [hy]; exact hc) fun w' b hw => hK _ _ (h w' b hw))⟩
theorem wl_alloc {ty : TypeId} (hS : St X w0 m0 w es m) (z : Value) (cs : List Value) (hz : (P.info? ty).bind (·.zero) = some z) (hc : z.cells = cs.toArray) (h : ∀ w' b, St X w0 m0 w' (.box b cs :: es) m → wpList P ops Q rest (a.put dst (.pointer (some ⟨b, 0, none⟩))) w') : Wl P ops Q (⟨dst, .alloc ty, rt, pos, af, none⟩ :: rest) a w := ⟨(
  wpList_plain rfl fun K hK => op_alloc hS ty rfl z hz cs hc fun w' b hw => hK _ _ (h w' b hw))⟩
theorem wl_load {ty : TypeId} {x : Operand} (hS : St X w0 m0 w es m) {d : TypeDesc} (hu : P.underlying ty = some d) (hd : d.isRow = false) {b off : Nat} (hx : a.eval x = .pointer (some ⟨b, off, none⟩)) {v : Value} (hv : Find es m b off v)
    (h : wpList P ops Q rest (a.put dst v) w) : Wl P ops Q (⟨dst, .load ty x, rt, pos, af, none⟩ :: rest) a w := ⟨( wpList_plain rfl fun K hK => a_load hS ty x rfl hu hd hx hv (hK _ _ h))⟩
theorem wg_load {ty : TypeId} {x : Operand} (hS : St X w0 m0 w es m) {d : TypeDesc} (hu : P.underlying ty = some d) (hd : d.isRow = false) (hw : Region.wanted ⟨dst, .load ty x, rt, pos, af, some g⟩ (yielded ops a.tmps) = true) {b off : Nat} (hx : a.eval x = .pointer (some ⟨b, off, none⟩)) {v : Value} (hv : Find es m b off v)
    (h : wpList P ops Q rest (a.put dst v) w) : Wl P ops Q (⟨dst, .load ty x, rt, pos, af, some g⟩ :: rest) a w := ⟨( wpList_step fun K hK => step_guard hw (a_load hS ty x rfl hu hd hx hv (hK _ _ h)))⟩
theorem wl_loads {ty : TypeId} {x : Operand} (hS : St X w0 m0 w es m) {n : Nat} (hn : ∃ d, P.underlying ty = some d ∧ d.isRow = true ∧ (P.info? ty).map (·.size) = some n) {b off : Nat} (hx : a.eval x = .pointer (some ⟨b, off, none⟩)) {vs : List Value} (hv : Finds es m b off n vs)
    (h : wpList P ops Q rest (a.put dst (.agg vs.toArray)) w) : Wl P ops Q (⟨dst, .load ty x, rt, pos, af, none⟩ :: rest) a w := ⟨( by
  obtain ⟨d, hu, hd, hn⟩ := hn
  exact wpList_plain rfl fun K hK => a_loads hS ty x rfl hu hd n hn hx hv (hK _ _ h))⟩
theorem wg_loads {ty : TypeId} {x : Operand} (hS : St X w0 m0 w es m) {n : Nat} (hn : ∃ d, P.underlying ty = some d ∧ d.isRow = true ∧ (P.info? ty).map (·.size) = some n) (hw : Region.wanted ⟨dst, .load ty x, rt, pos, af, some g⟩ (yielded ops a.tmps) = true) {b off : Nat} (hx : a.eval x = .pointer (some ⟨b, off, none⟩)) {vs : List Value} (hv : Finds es m b off n vs)
    (h : wpList P ops Q rest (a.put dst (.agg vs.toArray)) w) : Wl P ops Q (⟨dst, .load ty x, rt, pos, af, some g⟩ :: rest) a w := ⟨( by
  obtain ⟨d, hu, hd, hn⟩ := hn
  exact wpList_step fun K hK => step_guard hw (a_loads hS ty x rfl hu hd n hn hx hv (hK _ _ h)))⟩
theorem wl_store {ty : TypeId} {x y : Operand} (hS : St X w0 m0 w es m) (hn : ∃ d, P.underlying ty = some d ∧ d.isRow = false ∧ (P.info? ty).map (·.size) = some 1) {b off : Nat} (hx : a.eval x = .pointer (some ⟨b, off, none⟩)) {v : Value} (hy : a.eval y = v) (h1 : v.oneCell' = true) {cs cs' : List Value} {es' : List Ent}
    (hM : Ent.box b cs ∈ es) (hs : SetsL cs off [v] cs') (hU : UpdB es b cs cs' es') (h : ∀ w', St X w0 m0 w' es' m → wpList P ops Q rest (a.put dst undef) w') : Wl P ops Q (⟨dst, .store ty x y, rt, pos, af, none⟩ :: rest) a w := ⟨( by
  obtain ⟨d, hu, hd, hn⟩ := hn
  exact wpList_plain rfl fun K hK => a_store hS ty x y rfl hn hx hy h1 hU hs fun w' hw => hK _ _ (h w' hw))⟩
theorem wl_stores {ty : TypeId} {x y : Operand} (hS : St X w0 m0 w es m) {n : Nat} (hn : ∃ d, P.underlying ty = some d ∧ d.isRow = true ∧ (P.info? ty).map (·.size) = some n) {b off : Nat} (hx : a.eval x = .pointer (some ⟨b, off, none⟩)) {vs : List Value} (hy : a.eval y = .agg vs.toArray) (hl : vs.length = n) (h1 : ∀ v ∈ vs, v.oneCell' = true) {cs cs' : List Value} {es' : List Ent}
    (hM : Ent.box b cs ∈ es) (hs : SetsL cs off vs cs') (hU : UpdB es b cs cs' es') (h : ∀ w', St X w0 m0 w' es' m → wpList P ops Q rest (a.put dst undef) w') : Wl P ops Q (⟨dst, .store ty x y, rt, pos, af, none⟩ :: rest) a w := ⟨( by
  obtain ⟨d, hu, hd, hn⟩ := hn
  exact wpList_plain rfl fun K hK => a_stores hS ty x y rfl n hn hx hy hl h1 hU hs fun w' hw => hK _ _ (h w' hw))⟩
theorem wl_append {α : Type} (L : Lay α) {t e : TypeId} {z : Value} (hE : Elem P t e L.n L.bytes z) {s x : Operand} (hS : St X w0 m0 w es m) (hb : 0 < L.bytes) {v xv : Value} {n : Nat} {xs : List Value} {ys : List α} {f : Value → Nat → List Value → List Ent}
    (hs : a.eval s = v) (hi : RowAt es e L.n v n xs f) (hx : a.eval x = xv) (hr : L.list.rd m [xv] ys) (hbytes : (n + ys.length) * L.bytes ≤ 140737488355328)
    (h : ∀ w' q c news, CellsOf L m news ys → St X w0 m0 w' (f (.slice q (n + ys.length) c) (n + ys.length) (xs ++ news)) m → wpList P ops Q rest (a.put dst (.slice q (n + ys.length) c)) w') : Wl P ops Q (⟨dst, .call { callee := .builtin .append, args := #[s, x], argTypes := #[t, t] }, rt, pos, af, none⟩ :: rest) a w := ⟨(
  wpList_plain rfl fun K hK => op_appendL hS hE s x rfl hs hi hx hr hbytes hb fun w' q c news hc hw => hK _ _ (h w' q c news hc hw))⟩
theorem wl_append_nil {α : Type} (L : Lay α) {t e : TypeId} {z : Value} (hE : Elem P t e L.n L.bytes z) {s x : Operand} (hS : St X w0 m0 w es m) (hb : 0 < L.bytes) {xv : Value} {ys : List α}
    (hs : a.eval s = .slice none 0 0) (hx : a.eval x = xv) (hr : L.list.rd m [xv] ys)
    (h : ∀ w' q c news, CellsOf L m news ys → St X w0 m0 w' (.row e L.n (.slice q ys.length c) ys.length news :: es) m → wpList P ops Q rest (a.put dst (.slice q ys.length c)) w') : Wl P ops Q (⟨dst, .call { callee := .builtin .append, args := #[s, x], argTypes := #[t, t] }, rt, pos, af, none⟩ :: rest) a w := ⟨(
  wpList_plain rfl fun K hK => op_appendL_nil hS hE s x rfl hs hx hr hb fun w' q c news hc hw => hK _ _ (h w' q c news hc hw))⟩
theorem wl_appendB {t e : TypeId} {size bytes : Nat} {z : Value} (hE : Elem P t e size bytes z) {s x : Operand} (hS : St X w0 m0 w es m) (hb : 0 < bytes) {v : Value} {n : Nat} {xs : List Value} {b k c : Nat} {cs : List Value} {f : Value → Nat → List Value → List Ent} (hs : a.eval s = v) (hi : RowAt es e size v n xs f)
    (hx : a.eval x = .slice (some ⟨b, 0, none⟩) k c) (hM : Ent.box b cs ∈ es) (hl : cs.length = k * size) (h1 : ∀ u ∈ cs, u.oneCell' = true) (hbytes : (n + k) * bytes ≤ 140737488355328)
    (h : ∀ w' q c, St X w0 m0 w' (f (.slice q (n + k) c) (n + k) (xs ++ cs)) m → wpList P ops Q rest (a.put dst (.slice q (n + k) c)) w') : Wl P ops Q (⟨dst, .call { callee := .builtin .append, args := #[s, x], argTypes := #[t, t] }, rt, pos, af, none⟩ :: rest) a w := ⟨(
  wpList_plain rfl fun K hK => op_appendB hS hE s x rfl hs hi hx hM hl h1 hbytes hb fun w' q c hw => hK _ _ (h w' q c hw))⟩
theorem wl_lit {t e : TypeId} {size bytes : Nat} {z : Value} (hE : Elem P t e size bytes z) {len : Nat} {parts : Array (Nat × Operand)} (hS : St X w0 m0 w es m) {cs : List Value} (hlen : len * size ≤ 16777216) (hpos : len * size ≠ 0)
    (hf : Instr.fill (fun i => some (i * size, size)) ((Array.range (len * size)).map (z.cells[· % z.cells.size]!)) (parts.map fun (i, x) => (i, a.eval x)).toList = some cs.toArray)
    (h : ∀ w' b, St X w0 m0 w' (.box b cs :: es) m → wpList P ops Q rest (a.put dst (.slice (some ⟨b, 0, none⟩) len len)) w') : Wl P ops Q (⟨dst, .buildSlice t len parts, rt, pos, af, none⟩ :: rest) a w := ⟨(
  wpList_plain rfl fun K hK => op_lit hS hE len parts rfl hlen hpos cs hf fun w' b hw => hK _ _ (h w' b hw))⟩
theorem wl_copyR {d s : Operand} {dT sT elem t : TypeId} (hS : St X w0 m0 w es m) (hu : P.underlying dT = some (.slice elem)) (hsz : (P.info? elem).map (·.size) = some 1)
    {k : IntKind} {dry xs : List Int} {g cd off n dLen dCap : Nat} {sv : Value} {f : Value → Nat → List Value → List Ent} (hd : a.eval d = .slice (some ⟨g, off, none⟩) dLen dCap) (hi : RowAt es t 1 (.slice (some ⟨g, 0, none⟩) n cd) n (dry.map (.int k)) f) (hn : dry.length = n)
    (hs : a.eval s = sv) (hr : (Lay.int k).list.rd m [sv] xs) (hx : xs.length ≤ dLen) (hfit : off + dLen ≤ n)
    (h : ∀ w', St X w0 m0 w' (f (.slice (some ⟨g, 0, none⟩) n cd) n ((splice dry off xs).map (.int k))) m → wpList P ops Q rest (a.put dst (.int .i64 xs.length)) w') : Wl P ops Q (⟨dst, .call { callee := .builtin .copy, args := #[d, s], argTypes := #[dT, sT] }, rt, pos, af, none⟩ :: rest) a w := ⟨(
  wpList_plain rfl fun K hK => op_copyR hS d s dT sT rfl hu hsz hd hi hn hs hr hx hfit fun w' hw => hK _ _ (h w' hw))⟩
theorem wl_storeR {ty : TypeId} {x y : Operand} (hS : St X w0 m0 w es m) (hn : ∃ d, P.underlying ty = some d ∧ d.isRow = false ∧ (P.info? ty).map (·.size) = some 1) {g off : Nat} (hx : a.eval x = .pointer (some ⟨g, off, none⟩)) {v : Value} (hy : a.eval y = v) (h1 : v.oneCell' = true)
    {e : TypeId} {size n c : Nat} {xs : List Value} {f : Value → Nat → List Value → List Ent} (hi : RowAt es e size (.slice (some ⟨g, 0, none⟩) n c) n xs f) (hl : off < xs.length)
    (h : ∀ w', St X w0 m0 w' (f (.slice (some ⟨g, 0, none⟩) n c) n (xs.set off v)) m → wpList P ops Q rest (a.put dst undef) w') : Wl P ops Q (⟨dst, .store ty x y, rt, pos, af, none⟩ :: rest) a w := ⟨(
  wpList_plain rfl fun K hK => op_storeR hS ty x y rfl hn hx hy h1 hi hl fun w' hw => hK _ _ (h w' hw))⟩
theorem wl_make {t e : TypeId} {size bytes : Nat} {z : Value} (hE : Elem P t e size bytes z) {l c : Operand} (n : Nat) (hS : St X w0 m0 w es m) {kl kc : IntKind} {xl xc : Int} (hl : a.eval l = .int kl xl) (hc : a.eval c = .int kc xc) (hl2 : xl = n) (hc2 : xc = n) (hbytes : bytes * n ≤ 281474976710656) (h24 : n * size ≤ 16777216) (h63 : n ≤ maxLen)
    (h : ∀ w' b, St X w0 m0 w' (.row e size (.slice (some ⟨b, 0, none⟩) n n) n (madeCells z.cells (n * size)).toList :: es) m → wpList P ops Q rest (a.put dst (.slice (some ⟨b, 0, none⟩) n n)) w') : Wl P ops Q (⟨dst, .makeSlice t l c, rt, pos, af, none⟩ :: rest) a w := ⟨(
  wpList_plain rfl fun K hK => op_make hS hE l c rfl n hl hc hl2 hc2 hbytes h24 h63 fun w' b hw => hK _ _ (h w' b hw))⟩
theorem wl_lit0 {t e : TypeId} {size bytes : Nat} {z : Value} (hE : Elem P t e size bytes z) (hS : St X w0 m0 w es m)
    (h : ∀ w' b, St X w0 m0 w' (.row e size (.slice (some ⟨b, 0, none⟩) 0 0) 0 [] :: es) m → wpList P ops Q rest (a.put dst (.slice (some ⟨b, 0, none⟩) 0 0)) w') : Wl P ops Q (⟨dst, .buildSlice t 0 #[], rt, pos, af, none⟩ :: rest) a w := ⟨(
  wpList_plain rfl fun K hK => op_lit0 hS hE rfl fun w' b hw => hK _ _ (h w' b hw))⟩
theorem wl_unwanted {P : Program} {ops : Array Oper} {Q : Exit → Act → World → Prop} {a : Act} {w : World} {rest : List Oper} {dst : Option Tmp} {op : Op} {rt : TypeId} {pos : String} {af : Array Edge} {g : Nat × Bool}
    (hw : Region.wanted ⟨dst, op, rt, pos, af, some g⟩ (yielded ops a.tmps) = false) (h : wpList P ops Q rest (a.put dst undef) w) : Wl P ops Q (⟨dst, op, rt, pos, af, some g⟩ :: rest) a w := ⟨( wpList_skip hw h)⟩
theorem wg_case {ty : TypeId} {x : Operand} (hT : Region.wanted ⟨dst, .load ty x, rt, pos, af, some g⟩ (yielded ops a.tmps) = true → wpList P ops Q (⟨dst, .load ty x, rt, pos, af, some g⟩ :: rest) a w)
    (hF : Region.wanted ⟨dst, .load ty x, rt, pos, af, some g⟩ (yielded ops a.tmps) = false → wpList P ops Q (⟨dst, .load ty x, rt, pos, af, some g⟩ :: rest) a w) : Wl P ops Q (⟨dst, .load ty x, rt, pos, af, some g⟩ :: rest) a w := by
  cases h : Region.wanted ⟨dst, .load ty x, rt, pos, af, some g⟩ (yielded ops a.tmps) with
  | true => exact ⟨hT h⟩
  | false => exact ⟨hF h⟩
end Go.Proofs.Ytnmgiiaejpaeeaa
/- Results of calls as letters: what a walk carries on is a letter, what it stands for lies hidden. -/
namespace Go.Proofs.Ytnmgiiaejpaeeaa
set_option linter.unusedVariables false
set_option linter.unusedSimpArgs false
open Go.RowKit Go.Shelf
variable {P : Program} {f : FuncId} {args : Array Value} {w : World} {m : Mem}
theorem St.leSelf {X : List Nat} {w0 w : World} {m0 m : Mem} {es : List Ent} (_ : St X w0 m0 w es m) : m.Le m := Mem.Le.refl m
theorem St.settleRow' {X : List Nat} {w0 w : World} {m0 m : Mem} {es : List Ent} {α : Type} {L : Lay α} (hS : St X w0 m0 w es m) (i : Nat) {e : TypeId} {v : Value} {cells : List Value} {xs : List α} {n : Nat} (hn : xs.length = n) (hi : es[i]? = some (.row e L.n v n cells)) (hc : CellsOf L m cells xs) (hb : xs.length * L.bytes ≤ 140737488355328) :
    ∃ m', St X w0 m0 w (es.eraseIdx i) m' ∧ m.Le m' ∧ L.list.rd m' [v] xs := by
  subst hn
  exact hS.settleRow i hi hc hb
theorem letB {b : Bool} (h : Calls P f args w (Ret w m fun v _ => v = .bool b)) : Calls P f args w (Ret w m fun v _ => ∃ b', Hid (b' = b) ∧ v = .bool b') :=
  h.mono fun e w' ⟨v, m', h1, h2, h3⟩ => ⟨v, m', h1, ⟨b, rfl, h2⟩, h3⟩
theorem letInt {k : IntKind} {x : Int} (h : Calls P f args w (Ret w m fun v _ => v = .int k x)) : Calls P f args w (Ret w m fun v _ => ∃ x', Hid (x' = x) ∧ v = .int k x') :=
  h.mono fun e w' ⟨v, m', h1, h2, h3⟩ => ⟨v, m', h1, ⟨x, rfl, h2⟩, h3⟩
/-- A disk opened: its cells. -/
theorem dkL_cells {m : Mem} {cs : List Value} {d : Dk} (h : dkL.rd m cs d) : ∃ p c q e, cs = [.slice p d.dry.length c, .slice q d.wet.length e, .int .i64 d.fuse, .bool d.dead] ∧ Hid (dkL.rd m cs d) := by
  have hh := h
  obtain ⟨v0, v1, rfl, h0, h1, _⟩ := dkL_open h
  obtain ⟨p0, c0, rfl, _⟩ := Lay.list_open h0
  obtain ⟨p1, c1, rfl, _⟩ := Lay.list_open h1
  exact ⟨p0, c0, p1, c1, rfl, hh⟩
theorem dkL_dry {m : Mem} {v0 v1 v2 v3 : Value} {d : Dk} (h : dkL.rd m [v0, v1, v2, v3] d) : bytesL.rd m [v0] d.dry := by
  obtain ⟨x0, x1, e, h0, _⟩ := dkL_open h
  cases e
  exact h0
theorem letDE {d : Dk} {e : Int} (h : Calls P f args w (RetDE w m d e)) : Calls P f args w (Ret w m fun v m' => ∃ p c q a d' e', Hid (d' = d) ∧ Hid (e' = e) ∧ v = .tuple #[.agg ([.slice p d'.dry.length c, .slice q d'.wet.length a, .int .i64 d'.fuse, .bool d'.dead] : List Value).toArray, .int .i64 e'] ∧ Hid (dkL.rd m' [.slice p d'.dry.length c, .slice q d'.wet.length a, .int .i64 d'.fuse, .bool d'.dead] d')) :=
  h.mono fun en w' ⟨v, m', h1, ⟨cs, h2, h3⟩, h4⟩ => by
    obtain ⟨p, c, q, a, rfl, h5⟩ := dkL_cells h3
    exact ⟨v, m', h1, ⟨p, c, q, a, d, e, rfl, rfl, h2, h5⟩, h4⟩
theorem letBE {b : List Int} {e : Int} (h : Calls P f args w (RetBE w m b e)) : Calls P f args w (Ret w m fun v m' => ∃ p c b' e', Hid (b' = b) ∧ Hid (e' = e) ∧ v = .tuple #[.slice p b'.length c, .int .i64 e'] ∧ Hid (bytesL.rd m' [.slice p b'.length c] b') ∧ Hid (b'.length ≤ c ∧ c ≤ maxLen)) :=
  h.mono fun en w' ⟨v, m', h1, ⟨vb, h2, h3⟩, h4⟩ => by
    have hh := h3
    obtain ⟨p, c, rfl, a1, a2, _⟩ := Lay.list_open h3
    exact ⟨v, m', h1, ⟨p, c, b, e, rfl, rfl, h2, hh, a1, a2⟩, h4⟩
theorem letL {b : List Int} (h : Calls P f args w (Ret w m fun v m' => bytesL.rd m' [v] b)) : Calls P f args w (Ret w m fun v m' => ∃ p c b', Hid (b' = b) ∧ v = .slice p b'.length c ∧ Hid (bytesL.rd m' [.slice p b'.length c] b') ∧ Hid (b'.length ≤ c ∧ c ≤ maxLen)) :=
  h.mono fun en w' ⟨v, m', h1, h3, h4⟩ => by
    have hh := h3
    obtain ⟨p, c, rfl, a1, a2, _⟩ := Lay.list_open h3
    exact ⟨_, m', h1, ⟨p, c, b, rfl, rfl, hh, a1, a2⟩, h4⟩
theorem letSame {x y : List Int} (h : Calls P f args w fun e w' => e = .returned (.bool (decide (x = y))) ∧ w = w') : Calls P f args w fun e w' => ∃ b', Hid (b' = decide (x = y)) ∧ e = .returned (.bool b') ∧ w = w' :=
  h.mono fun e w' ⟨h1, h2⟩ => ⟨_, rfl, h1, h2⟩
end Go.Proofs.Ytnmgiiaejpaeeaa
/- How the arguments of a law are opened: by layouts. -/
namespace Go.Proofs.Ytnmgiiaejpaeeaa
set_option linter.unusedVariables false
set_option linter.unusedSimpArgs false
open Go.RowKit Go.ChangeShapes Go.WideShapes
/-- What comes in at the type t is read by L. -/
def Opens {α : Type} (P : Program) (L : Lay α) (t : TypeId) : Prop := ∀ (H : Type) (enc : TypeId × Value → H) (W : World) (sp : Nat → Bool) (hd : Bool) (fuel : Nat) (cs : List Value) (d : DataW H) (ps : List MemPlace),
  DataW.trod enc P W 0 sp hd fuel t cs = some (d, ps) → (∀ n ∈ d.weights P t, n ≤ reachBytes) → ∃ x, L.rd (World.mem W) cs x
theorem wf_inK {k : IntKind} {n : Int} (h : (Lit.int k n).wf = true) : InK k n := by
  simp [Lit.wf] at h
  exact h
theorem Opens.int {P : Program} {t : TypeId} {k : IntKind} (ht : P.underlying t = some (.int k)) : Opens P (Lay.int k) t := by
  intro H enc W sp hd fuel cs d ps h _
  cases fuel with
  | zero => cases h
  | succ fuel =>
    unfold DataW.trod at h
    rw [ht] at h
    match cs, h with
    | [.int k' n], h =>
      simp only at h
      split at h
      · rename_i hk
        obtain ⟨rfl, hw⟩ := hk
        exact ⟨n, rfl, wf_inK hw⟩
      · cases h
theorem Opens.bool {P : Program} {t : TypeId} (ht : P.underlying t = some .bool) : Opens P Lay.bool t := by
  intro H enc W sp hd fuel cs d ps h _
  cases fuel with
  | zero => cases h
  | succ fuel =>
    unfold DataW.trod at h
    rw [ht] at h
    match cs, h with
    | [.bool b], h => exact ⟨b, rfl⟩
theorem weightsAll_mem {H : Type} {P : Program} {e : TypeId} : ∀ {l : List (DataW H)} {d : DataW H}, d ∈ l → ∀ n ∈ d.weights P e, n ∈ DataW.weightsAll P e l
  | x :: l, d, h, n, hn => by
    simp only [DataW.weightsAll, List.mem_append]
    rcases List.mem_cons.1 h with rfl | h
    · exact .inl hn
    · exact .inr (weightsAll_mem h n hn)
theorem Opens.list {α : Type} {P : Program} {L : Lay α} {t e : TypeId} (ht : P.underlying t = some (.slice e)) (he : Opens P L e) (hc : P.cellsOf e = L.n) (hb : P.bytesOf e = L.bytes) (h0 : 0 < L.n) : Opens P L.list t := by
  intro H enc W sp hd fuel cs d ps h hw
  rcases Go.Deep.open_slice ht h with ⟨rfl, _⟩ | ⟨a, len, cap, m, n, D, Pl, rfl, _, hl, hm, hmm, hx, hel⟩
  · exact ⟨[], Lay.nil_rd _ _⟩
  · obtain ⟨rfl, rfl⟩ := Prod.mk.inj hx
    have hlm : len ≤ m := by rw [hmm]; split <;> omega
    have hwt : (len + (m - len)) * P.bytesOf e ≤ reachBytes := by
      refine hw _ ?_
      simp [DataW.weights, ht]
    have hex : ∀ i : Fin len, ∃ x, ∃ cs', L.rd (World.mem W) cs' x ∧ ∀ j v, cs'[j]? = some v → W.cell? ((a.add (i.1 * L.n)).add j) = some v := by
      intro i
      obtain ⟨cs', h1, h2⟩ := hel i.1 (by have := i.2; omega)
      obtain ⟨x, hx⟩ := he H enc W sp hd n cs' (D i.1) (Pl i.1) h2 (fun k hk => hw k (by
        simp only [DataW.weights, ht, List.mem_cons, List.mem_append]
        exact .inr (.inl (weightsAll_mem (List.mem_map.2 ⟨i.1, by simp, rfl⟩) k hk))))
      obtain ⟨_, hlen, hcell⟩ := World.cells?_some h1
      refine ⟨x, cs', hx, fun j v hj => ?_⟩
      have hjl := (List.getElem?_eq_some_iff.1 hj).1
      have := hcell j (by omega)
      rw [hj, hc] at this
      exact this
    obtain ⟨f, hf⟩ := Classical.axiomOfChoice hex
    have hlen : (List.ofFn f).length = len := by simp
    refine ⟨List.ofFn f, some a, cap, by rw [hlen], by rw [hlen]; exact hl, hm, ?_, ?_⟩
    · rw [hlen, ← hb]
      have : len * P.bytesOf e ≤ (len + (m - len)) * P.bytesOf e := Nat.mul_le_mul_right _ (by omega)
      simp only [reachBytes] at hwt
      omega
    · intro hpos
      obtain ⟨cs0, hr0, hc0⟩ := hf ⟨0, by omega⟩
      obtain ⟨b, o, sp'⟩ := a
      obtain rfl : sp' = none := by
        have hl0 := L.len hr0
        simpa [Addr.add] using World.cell?_spot (hc0 0 cs0[0] (List.getElem?_eq_getElem (by omega)))
      refine ⟨b, o, rfl, fun i x hx => ?_⟩
      have hi : i < len := by have := (List.getElem?_eq_some_iff.1 hx).1; omega
      obtain ⟨cs', h1, h2⟩ := hf ⟨i, hi⟩
      have e1 : x = f ⟨i, hi⟩ := by
        have := (List.getElem?_eq_some_iff.1 hx).2
        rw [← this]; simp
      rw [e1]
      refine ⟨cs', h1, fun j v hj => ?_⟩
      have := h2 j v hj
      rw [Addr.add_lit, Addr.add_lit] at this
      exact this
set_option maxRecDepth 100000 in
theorem opens_wr : Opens Try.prog wrL 102 := by
  intro H enc W sp hd fuel cs d ps h hw
  obtain ⟨y0, y1, n, hx, hl, h0, h1⟩ := trod_struct2 Try.underlying102 h
  obtain ⟨rfl, rfl⟩ := Prod.mk.inj hx
  have hl2 : cs.length = 2 := hl
  match cs, hl2 with
  | [c0, c1], _ =>
    obtain ⟨x0, g0⟩ := Opens.int (k := .i64) Try.underlying3 H enc W sp hd n [c0] y0.1 y0.2 h0 (fun k hk => hw k (by simp [DataW.weights, Try.underlying102, DataW.weightsEach]; exact .inl hk))
    obtain ⟨x1, g1⟩ := Opens.list (L := u8L) Try.underlying22 (Opens.int Try.underlying5) (by kernel_rfl) (by kernel_rfl) (by decide) H enc W sp hd n [c1] y1.1 y1.2 h1 (fun k hk => hw k (by simp [DataW.weights, Try.underlying102, DataW.weightsEach]; exact .inr hk))
    exact ⟨⟨x0, x1⟩, [c0], [c1], rfl, g0, g1⟩
set_option maxRecDepth 100000 in
theorem opens_dk : Opens Try.prog dkL 44 := by
  intro H enc W sp hd fuel cs d ps h hw
  obtain ⟨y0, y1, y2, y3, n, hx, hl, h0, h1, h2, h3⟩ := Go.Joins.trod_struct4 Try.underlying44 h
  obtain ⟨rfl, rfl⟩ := Prod.mk.inj hx
  have hl2 : cs.length = 4 := hl
  match cs, hl2 with
  | [c0, c1, c2, c3], _ =>
    obtain ⟨x0, g0⟩ := Opens.list (L := u8L) Try.underlying22 (Opens.int Try.underlying5) (by kernel_rfl) (by kernel_rfl) (by decide) H enc W sp hd n [c0] y0.1 y0.2 h0 (fun k hk => hw k (by simp [DataW.weights, Try.underlying44, DataW.weightsEach]; exact .inl hk))
    obtain ⟨x1, g1⟩ := Opens.list (L := wrL) Try.underlying42 opens_wr (by kernel_rfl) (by kernel_rfl) (by decide) H enc W sp hd n [c1] y1.1 y1.2 h1 (fun k hk => hw k (by simp [DataW.weights, Try.underlying44, DataW.weightsEach]; exact .inr (.inl hk)))
    obtain ⟨x2, g2⟩ := Opens.int (k := .i64) Try.underlying3 H enc W sp hd n [c2] y2.1 y2.2 h2 (fun k hk => hw k (by simp [DataW.weights, Try.underlying44, DataW.weightsEach]; exact .inr (.inr (.inl hk))))
    obtain ⟨x3, g3⟩ := Opens.bool Try.underlying4 H enc W sp hd n [c3] y3.1 y3.2 h3 (fun k hk => hw k (by simp [DataW.weights, Try.underlying44, DataW.weightsEach]; exact .inr (.inr (.inr hk))))
    exact ⟨⟨x0, x1, x2, x3⟩, [c0, c1, c2], [c3], rfl, ⟨[c0, c1], [c2], rfl, ⟨[c0], [c1], rfl, g0, g1⟩, g2⟩, g3⟩
theorem weights_of {H : Type} {P : Program} {ts : List TypeId} {ds : List (DataW H)} {j : Nat} {t : TypeId} {d : DataW H} (hsz : (DataW.weightsEach P ts ds).all (· ≤ reachBytes) = true) (ht : ts[j]? = some t) (hd : ds[j]? = some d) : ∀ n ∈ d.weights P t, n ≤ reachBytes :=
  fun n hn => by simpa using List.all_eq_true.1 hsz n (DataW.weights_mem_each ht hd n hn)
set_option maxRecDepth 100000 in
/-- A disk comes in. -/
theorem openDisk {H : Type} {enc : TypeId × Value → H} {W : World} {sp : Nat → Bool} {hd : Bool} {v : Value} {d : DataW H} {ps : List MemPlace} {r : Reach} {b0 : Nat} (hv : Value.okWide Try.prog W r b0 44 v) (h : DataW.Trod enc Try.prog W 0 sp hd 44 v d ps) (hw : ∀ n ∈ d.weights Try.prog 44, n ≤ reachBytes) : ∃ x, RdArg W v x := by
  obtain ⟨v0, v1, v2, v3, y0, y1, y2, y3, n, rfl, rfl, rfl, h0, h1, h2, h3⟩ := Go.Joins.open_agg4 Try.underlying44 (by kernel_rfl) (by kernel_rfl) hv h
  obtain ⟨x0, g0⟩ := Opens.list (L := u8L) Try.underlying22 (Opens.int Try.underlying5) (by kernel_rfl) (by kernel_rfl) (by decide) H enc W sp hd n [v0] y0.1 y0.2 h0 (fun k hk => hw k (by simp [DataW.weights, Try.underlying44, DataW.weightsEach]; exact .inl hk))
  obtain ⟨x1, g1⟩ := Opens.list (L := wrL) Try.underlying42 opens_wr (by kernel_rfl) (by kernel_rfl) (by decide) H enc W sp hd n [v1] y1.1 y1.2 h1 (fun k hk => hw k (by simp [DataW.weights, Try.underlying44, DataW.weightsEach]; exact .inr (.inl hk)))
  obtain ⟨x2, g2⟩ := Opens.int (k := .i64) Try.underlying3 H enc W sp hd n [v2] y2.1 y2.2 h2 (fun k hk => hw k (by simp [DataW.weights, Try.underlying44, DataW.weightsEach]; exact .inr (.inr (.inl hk))))
  obtain ⟨x3, g3⟩ := Opens.bool Try.underlying4 H enc W sp hd n [v3] y3.1 y3.2 h3 (fun k hk => hw k (by simp [DataW.weights, Try.underlying44, DataW.weightsEach]; exact .inr (.inr (.inr hk))))
  exact ⟨⟨x0, x1, x2, x3⟩, [v0, v1, v2, v3], rfl, [v0, v1, v2], [v3], rfl, ⟨[v0, v1], [v2], rfl, ⟨[v0], [v1], rfl, g0, g1⟩, g2⟩, g3⟩
end Go.Proofs.Ytnmgiiaejpaeeaa
