/- Contracts over the state of a walk: disk.Read, Write whose octets are the call's own; the copy that a law keeps. -/
import Derived.Test.YtnmgiiaejpaeeaaG3
namespace Go.Proofs.Ytnmgiiaejpaeeaa
set_option linter.unusedVariables false
set_option linter.unusedSimpArgs false
open Go.RowKit Go.Shelf
/-- A disk whose octets are the call's own, and an error, are handed back. -/
def RetDO (w : World) (m : Mem) (d : Dk) (E : Int) (e : Ending) (w' : World) : Prop :=
  ∃ vd q c m', e = .returned (.tuple #[.agg #[vd, .slice q d.wet.length c, .int .i64 d.fuse, .bool d.dead], .int .i64 E]) ∧ wrL.list.rd m' [.slice q d.wet.length c] d.wet ∧ InK .i64 d.fuse ∧ (∀ x ∈ d.dry, InK .u8 x) ∧ d.dry.length ≤ 140737488355328 ∧
    St [] w m w' [.row 5 1 vd d.dry.length (d.dry.map (.int .u8))] m'
theorem close_err_o {w w' : World} {m m' : Mem} {es : List Ent} {D : Dk} {e E : Int} (hE : E = e) (hD : D = dk0) (hS : St [] w m w' es m') : RetDO w m D E (.returned (.tuple #[.agg ([.slice none 0 0, .slice none 0 0, .int .i64 0, .bool false] : List Value).toArray, .int .i64 e])) w' := by
  subst hE hD
  exact ⟨_, _, _, m', rfl, Lay.nil_rd _ _, inK64 (by decide) (by decide), by simp [dk0], by simp [dk0], hS.done.nilRow _ _⟩
theorem close_own_o {w w' : World} {m m' : Mem} {es : List Ent} {vd vq : Value} {cells : List Value} {D : Dk} {e E f : Int} {b : Bool} (hE : E = e) (hf : D.fuse = f) (hb : D.dead = b) (hk : InK .i64 f)
    (hS : St [] w m w' (.row 5 1 vd D.dry.length (D.dry.map (.int .u8)) :: .row 102 2 vq D.wet.length cells :: es) m')
    (hd : ∀ x ∈ D.dry, InK .u8 x) (hc : CellsOf wrL m' cells D.wet) (h1 : D.dry.length ≤ 140737488355328) (h2 : D.wet.length * 32 ≤ 140737488355328) :
    RetDO w m D E (.returned (.tuple #[.agg ([vd, vq, .int .i64 f, .bool b] : List Value).toArray, .int .i64 e])) w' := by
  subst hE hf hb
  obtain ⟨m2, k1, k2, k3⟩ := hS.settleRow (L := wrL) 1 rfl hc (by simpa [wrL, Lay.by] using h2)
  simp only [List.eraseIdx_cons_succ, List.eraseIdx_cons_zero] at k1
  obtain ⟨q, c, rfl, _⟩ := Lay.list_open k3
  exact ⟨_, _, _, m2, rfl, k3, hk, hd, h1, k1.drop _ (by simp)⟩
theorem close_half_o {w w' : World} {m m' : Mem} {es : List Ent} {vd vq : Value} {D : Dk} {e E f : Int} {b : Bool} (hE : E = e) (hf : D.fuse = f) (hb : D.dead = b) (hk : InK .i64 f)
    (hS : St [] w m w' (.row 5 1 vd D.dry.length (D.dry.map (.int .u8)) :: es) m') (hd : ∀ x ∈ D.dry, InK .u8 x) (hv : wrL.list.rd m' [vq] D.wet) (h1 : D.dry.length ≤ 140737488355328) :
    RetDO w m D E (.returned (.tuple #[.agg ([vd, vq, .int .i64 f, .bool b] : List Value).toArray, .int .i64 e])) w' := by
  subst hE hf hb
  obtain ⟨q, c, rfl, _⟩ := Lay.list_open hv
  exact ⟨_, _, _, m', rfl, hv, hk, hd, h1, hS.drop _ (by simp)⟩
set_option maxRecDepth 100000 in
set_option maxHeartbeats 4000000 in
theorem deed_o (m : Mem) (w : World) (hm : m.In w) (cs : List Value) (d : Dk) (h : dkL.rd m cs d) (hok : checkOK d) (gf : Nat) (lb : Array Value) (eg : Enters Try.prog gf) (act : Dk → Dk) (hdoes : Does w m gf lb d act) (hin : ∀ x ∈ (act d).dry, InK .u8 x) :
    Calls Try.prog 71 #[.agg cs.toArray, .func (.func gf) #[] lb] w (RetDO w m (deedD act d) (deedE d)) := by
  have HH := Lib.hid h
  obtain ⟨v0, v1, rfl, h0, h1, _⟩ := dkL_open h
  obtain ⟨p0, c0, rfl, a1, a2, _, a4⟩ := Lay.list_open h0
  obtain ⟨p1, c1, rfl, b1, b2, b3, b4⟩ := Lay.list_open h1
  have hS := St.start hm
  have HR := Lib.hid a4.inK
  have HO := Lib.hid (row_octets b4)
  have HD := Lib.hid hdoes
  have HI := Lib.hid hin
  have HK := Lib.hid hok
  have hf1 := hok.2.2.2.2.2.1
  have hf2 := hok.2.2.2.2.2.2
  clear h h0 h1 b3 a1 a2 a4 b1 b2 b4 hdoes hin hok
  unfold Enters at eg
  have ways : (d.fuse = 0) ∨ (d.fuse = -1) ∨ (1 ≤ d.fuse ∧ ((d.fuse == 0) = false) ∧ ((d.fuse == -1) = false)) := by
    simp only [beq_eq_false_iff_ne]; omega
  have K := fun (vd vq : Value) => ()
  rcases ways with hw | hw | ⟨hw, hw2, hw3⟩
  all_goals
    first
    | (rw [hw] at HH; have HW := Lib.hid hw; rw [hw])
    | (have HW := Lib.hid hw)
    go_enter Try.func71, Try.ntmps71
    go_wp2_with (first 
    | ((with_reducible apply l_box (ty := 44) (y := (.tmp 0)) hS); (· (first | (go_simp; done) | (go_simp; with_reducible rfl))); (· exact rfl); clear hS; intro w2 b2 hS)
    | ((with_reducible apply l_alloc (ty := 44) (dst := some 4) hS (.agg #[.slice none 0 0, .slice none 0 0, .int .i64 0, .bool false]) [.slice none 0 0, .slice none 0 0, .int .i64 0, .bool false]); (· kernel_rfl); (· rfl); clear hS; intro w4 b4 hS)
    | ((with_reducible apply l_load hS); (· (first | exact Try.underlying3)); (· exact rfl); (· exact rfl); (· (first | (apply Find.box; (· (repeat constructor)); rfl) | exact Find.mem (by assumption) | (apply Find.row; (· (repeat constructor)); assumption))))
    | ((with_reducible apply g_load hS); (· (first | exact Try.underlying3)); (· exact rfl); (· (first | rfl | (go_simp; done))); (· exact rfl); (· (first | (apply Find.box; (· (repeat constructor)); rfl) | exact Find.mem (by assumption) | (apply Find.row; (· (repeat constructor)); assumption))))
    | ((with_reducible apply l_loads hS); (· (first | exact rowT44)); (· exact rfl); (· (first | (apply Finds.box; (· (repeat constructor)); (· (repeat constructor)); done) | (refine Finds.mem2 (by assumption) ?_; first | rfl | assumption | (simp; done)) | (apply Finds.row; (· (repeat constructor)); (· assumption); (· rfl)))))
    | ((with_reducible apply g_loads hS); (· (first | exact rowT44)); (· (first | rfl | (go_simp; done))); (· exact rfl); (· (first | (apply Finds.box; (· (repeat constructor)); (· (repeat constructor)); done) | (refine Finds.mem2 (by assumption) ?_; first | rfl | assumption | (simp; done)) | (apply Finds.row; (· (repeat constructor)); (· assumption); (· rfl)))))
    | ((with_reducible apply l_store hS); (· (first | exact rowT3 | exact rowT4)); (· exact rfl); (· (first | (go_simp; done) | (go_simp; with_reducible rfl))); (· (first | rfl | assumption | (simp [Value.oneCell']; done))); (· (repeat constructor)); (· (repeat constructor)); (· (repeat constructor)); clear hS; intro ws hS)
    | ((with_reducible apply l_storeR hS); (· (first | exact rowT3 | exact rowT4)); (· exact rfl); (· (first | (go_simp; done) | (go_simp; with_reducible rfl))); (· (first | rfl | assumption | (simp [Value.oneCell']; done))); (· (repeat constructor)); (· (first | assumption | omega | (simp; omega))); clear hS; intro ws hS)
    | ((with_reducible apply l_stores hS); (· (first | exact rowT44)); (· exact rfl); (· exact rfl); (· exact rfl); (· (first | assumption | (simp [Value.oneCell']; done))); (· (repeat constructor)); (· (repeat constructor)); (· (repeat constructor)); clear hS; intro ws hS)
      | (go_at_call 77; refine (own_c _ _ hS.inw _ _ HH.out).mono ?_; rintro e' w7 ⟨vd, vq, cells, m6, rfl, hc, hk⟩; (try rw [HW.out]); replace hS := hS.callOwn hk; have hle6 := hk.le; simp only [List.cons_append, List.nil_append] at hS; obtain ⟨qd, cd, rfl⟩ := row_form (hS.row 0 rfl); obtain ⟨qq, cq, rfl⟩ := row_form (hS.row 1 rfl); have HC := Lib.hid hc; clear hc hk))
  · have e0 : d.fuse = 0 := HW.out
    have e1 : deedD act d = { d with dead := true } := if_pos e0
    refine ret_cell_tmp (n := 4) rfl rfl hS (by (repeat constructor)) (by rfl) dkRow rfl ?_
    rw [e1]
    exact close_own_o (if_pos e0) e0 rfl (inK64 (by omega) (by omega)) hS HR.out HC.out (ok_big HK.out).1 (ok_big HK.out).2
  · replace hS := ((hS.front (x := .row 102 _ _ _ _) (by (repeat constructor))).front (x := .row 5 _ _ _ _) (by (repeat constructor))).front (x := .box b2 _) (by (repeat constructor))
    refine (HD.out _ _ _ _ _ _ _ _ _ _ (St.subGe (ls := [_, _, _]) hS) hS.below hS.le HC.out (St.sub (ls := [_, _, _]) hS)).mono ?_
    rintro e' w21 ⟨rfl, vq, m8, hvq, hlen, hk⟩
    replace hS := St.lendL (ls := [_, _, _]) hS hk
    simp only [List.cons_append, List.nil_append] at hS
    obtain ⟨q8, c8, rfl, _⟩ := Lay.list_open hvq
    have HV := Lib.hid hvq
    have HLN := Lib.hid hlen
    clear hk hvq hlen
    go_wp2_with (first 
    | ((with_reducible apply l_box (ty := 44) (y := (.tmp 0)) hS); (· (first | (go_simp; done) | (go_simp; with_reducible rfl))); (· exact rfl); clear hS; intro w2 b2 hS)
    | ((with_reducible apply l_alloc (ty := 44) (dst := some 4) hS (.agg #[.slice none 0 0, .slice none 0 0, .int .i64 0, .bool false]) [.slice none 0 0, .slice none 0 0, .int .i64 0, .bool false]); (· kernel_rfl); (· rfl); clear hS; intro w4 b4 hS)
    | ((with_reducible apply l_load hS); (· (first | exact Try.underlying3)); (· exact rfl); (· exact rfl); (· (first | (apply Find.box; (· (repeat constructor)); rfl) | exact Find.mem (by assumption) | (apply Find.row; (· (repeat constructor)); assumption))))
    | ((with_reducible apply g_load hS); (· (first | exact Try.underlying3)); (· exact rfl); (· (first | rfl | (go_simp; done))); (· exact rfl); (· (first | (apply Find.box; (· (repeat constructor)); rfl) | exact Find.mem (by assumption) | (apply Find.row; (· (repeat constructor)); assumption))))
    | ((with_reducible apply l_loads hS); (· (first | exact rowT44)); (· exact rfl); (· (first | (apply Finds.box; (· (repeat constructor)); (· (repeat constructor)); done) | (refine Finds.mem2 (by assumption) ?_; first | rfl | assumption | (simp; done)) | (apply Finds.row; (· (repeat constructor)); (· assumption); (· rfl)))))
    | ((with_reducible apply g_loads hS); (· (first | exact rowT44)); (· (first | rfl | (go_simp; done))); (· exact rfl); (· (first | (apply Finds.box; (· (repeat constructor)); (· (repeat constructor)); done) | (refine Finds.mem2 (by assumption) ?_; first | rfl | assumption | (simp; done)) | (apply Finds.row; (· (repeat constructor)); (· assumption); (· rfl)))))
    | ((with_reducible apply l_store hS); (· (first | exact rowT3 | exact rowT4)); (· exact rfl); (· (first | (go_simp; done) | (go_simp; with_reducible rfl))); (· (first | rfl | assumption | (simp [Value.oneCell']; done))); (· (repeat constructor)); (· (repeat constructor)); (· (repeat constructor)); clear hS; intro ws hS)
    | ((with_reducible apply l_storeR hS); (· (first | exact rowT3 | exact rowT4)); (· exact rfl); (· (first | (go_simp; done) | (go_simp; with_reducible rfl))); (· (first | rfl | assumption | (simp [Value.oneCell']; done))); (· (repeat constructor)); (· (first | assumption | omega | (simp; omega))); clear hS; intro ws hS)
    | ((with_reducible apply l_stores hS); (· (first | exact rowT44)); (· exact rfl); (· exact rfl); (· exact rfl); (· (first | assumption | (simp [Value.oneCell']; done))); (· (repeat constructor)); (· (repeat constructor)); (· (repeat constructor)); clear hS; intro ws hS))
    refine ret_cell_tmp (n := 4) rfl rfl hS (by (repeat constructor)) (by rfl) dkRow rfl ?_
    replace hS := hS.front (x := .row 5 1 _ _ _) (by (repeat constructor))
    have hl := HLN.out
    have e0 : d.fuse = -1 := HW.out
    have e1 : deedD act d = { act d with fuse := -1, dead := d.dead } := by unfold deedD; rw [if_neg (by omega), if_pos e0]
    rw [e1]
    exact close_half_o (D := { act d with fuse := -1, dead := d.dead }) (by unfold deedE; exact if_neg (by omega)) rfl rfl (inK64 (by omega) (by omega)) (by rw [← hl] at hS; rw [← hl]; exact hS) HI.out HV.out (by show (act d).dry.length ≤ _; have := HK.out.2.1; omega)
  · replace hS := ((hS.front (x := .row 102 _ _ _ _) (by (repeat constructor))).front (x := .row 5 _ _ _ _) (by (repeat constructor))).front (x := .box b2 _) (by (repeat constructor))
    refine (HD.out _ _ _ _ _ _ _ _ _ _ (St.subGe (ls := [_, _, _]) hS) hS.below hS.le HC.out (St.sub (ls := [_, _, _]) hS)).mono ?_
    rintro e' w21 ⟨rfl, vq, m8, hvq, hlen, hk⟩
    replace hS := St.lendL (ls := [_, _, _]) hS hk
    simp only [List.cons_append, List.nil_append] at hS
    obtain ⟨q8, c8, rfl, _⟩ := Lay.list_open hvq
    have HV := Lib.hid hvq
    have HLN := Lib.hid hlen
    clear hk hvq hlen
    go_wp2_with (first 
    | ((with_reducible apply l_box (ty := 44) (y := (.tmp 0)) hS); (· (first | (go_simp; done) | (go_simp; with_reducible rfl))); (· exact rfl); clear hS; intro w2 b2 hS)
    | ((with_reducible apply l_alloc (ty := 44) (dst := some 4) hS (.agg #[.slice none 0 0, .slice none 0 0, .int .i64 0, .bool false]) [.slice none 0 0, .slice none 0 0, .int .i64 0, .bool false]); (· kernel_rfl); (· rfl); clear hS; intro w4 b4 hS)
    | ((with_reducible apply l_load hS); (· (first | exact Try.underlying3)); (· exact rfl); (· exact rfl); (· (first | (apply Find.box; (· (repeat constructor)); rfl) | exact Find.mem (by assumption) | (apply Find.row; (· (repeat constructor)); assumption))))
    | ((with_reducible apply g_load hS); (· (first | exact Try.underlying3)); (· exact rfl); (· (first | rfl | (go_simp; done))); (· exact rfl); (· (first | (apply Find.box; (· (repeat constructor)); rfl) | exact Find.mem (by assumption) | (apply Find.row; (· (repeat constructor)); assumption))))
    | ((with_reducible apply l_loads hS); (· (first | exact rowT44)); (· exact rfl); (· (first | (apply Finds.box; (· (repeat constructor)); (· (repeat constructor)); done) | (refine Finds.mem2 (by assumption) ?_; first | rfl | assumption | (simp; done)) | (apply Finds.row; (· (repeat constructor)); (· assumption); (· rfl)))))
    | ((with_reducible apply g_loads hS); (· (first | exact rowT44)); (· (first | rfl | (go_simp; done))); (· exact rfl); (· (first | (apply Finds.box; (· (repeat constructor)); (· (repeat constructor)); done) | (refine Finds.mem2 (by assumption) ?_; first | rfl | assumption | (simp; done)) | (apply Finds.row; (· (repeat constructor)); (· assumption); (· rfl)))))
    | ((with_reducible apply l_store hS); (· (first | exact rowT3 | exact rowT4)); (· exact rfl); (· (first | (go_simp; done) | (go_simp; with_reducible rfl))); (· (first | rfl | assumption | (simp [Value.oneCell']; done))); (· (repeat constructor)); (· (repeat constructor)); (· (repeat constructor)); clear hS; intro ws hS)
    | ((with_reducible apply l_storeR hS); (· (first | exact rowT3 | exact rowT4)); (· exact rfl); (· (first | (go_simp; done) | (go_simp; with_reducible rfl))); (· (first | rfl | assumption | (simp [Value.oneCell']; done))); (· (repeat constructor)); (· (first | assumption | omega | (simp; omega))); clear hS; intro ws hS)
    | ((with_reducible apply l_stores hS); (· (first | exact rowT44)); (· exact rfl); (· exact rfl); (· exact rfl); (· (first | assumption | (simp [Value.oneCell']; done))); (· (repeat constructor)); (· (repeat constructor)); (· (repeat constructor)); clear hS; intro ws hS))
    refine ret_cell_tmp (n := 4) rfl rfl hS (by (repeat constructor)) (by rfl) dkRow rfl ?_
    replace hS := hS.front (x := .row 5 1 _ _ _) (by (repeat constructor))
    have hl := HLN.out
    have e1 : deedD act d = { act d with fuse := d.fuse - 1, dead := d.dead } := by unfold deedD; rw [if_neg (by omega), if_neg (by omega)]
    rw [e1]
    exact close_half_o (D := { act d with fuse := d.fuse - 1, dead := d.dead }) (by unfold deedE; exact if_neg (by omega)) rfl rfl (inK64 (by omega) (by omega)) (by rw [← hl] at hS; rw [← hl]; exact hS) HI.out HV.out (by show (act d).dry.length ≤ _; have := HK.out.2.1; omega)
set_option maxRecDepth 100000 in
set_option maxHeartbeats 4000000 in
theorem write_o (m : Mem) (w : World) (hm : m.In w) (cs : List Value) (d : Dk) (h : dkL.rd m cs d) (k : Int) (hik : InK .i64 k) (vb : Value) (b : List Int) (hb : bytesL.rd m [vb] b) :
    Calls Try.prog 35 #[.agg cs.toArray, .int .i64 k, vb] w (RetDO w m (writeD d k b) (writeE d k b)) := by
  have HH := Lib.hid h
  have HO := Lib.hid (octets_of h)
  have HB := Lib.hid hb
  obtain ⟨v0, v1, rfl, h0, h1, _⟩ := dkL_open h
  obtain ⟨p0, c0, rfl, _⟩ := Lay.list_open h0
  obtain ⟨p1, c1, rfl, b1, b2, _⟩ := Lay.list_open h1
  obtain ⟨pb, cb, rfl, e1, e2, _⟩ := Lay.list_open hb
  have hS := St.start hm
  have HIK := Lib.hid hik
  simp only [maxLen] at b2 e2
  clear h h0 h1 hb hik
  have ec := enters_of Try.func72 (by kernel_rfl) rfl
  have ways : (aliveE d = 0 ∧ checkOK d ∧ d.dead = false) ∨ (aliveE d = 1 ∧ ¬ checkOK d ∧ True) ∨ (aliveE d = 11 ∧ checkOK d ∧ d.dead = true) := by
    rcases checkE_cases d with ⟨_, h⟩ | ⟨_, h⟩
    · cases hd : d.dead
      · exact .inl ⟨(alive_of hd).1 h, h, rfl⟩
      · exact .inr (.inr ⟨(alive_of hd).1 h, h, rfl⟩)
    · exact .inr (.inl ⟨(alive_of rfl).2 h, h, trivial⟩)
  rcases ways with ⟨hA, hok, hdd⟩ | ⟨hA, hok, hdd⟩ | ⟨hA, hok, hdd⟩
  all_goals
      have HK := Lib.hid hok
      have HD := Lib.hid hdd
      have HA := Lib.hid hA
      clear hok hA hdd
      obtain ⟨F, hF⟩ : ∃ F, F = farD d k := ⟨_, rfl⟩
      have HF := Lib.hid hF
      cases F
      all_goals
        clear hF
        go_enter Try.func35, Try.ntmps35
        go_wp2_with (first 
    | ((with_reducible apply l_box (ty := 44) (y := (.tmp 0)) hS); (· (first | (go_simp; done) | (go_simp; with_reducible rfl))); (· exact rfl); clear hS; intro w3 b3 hS)
    | ((with_reducible apply l_box (ty := 3) (y := (.tmp 1)) hS); (· (first | (go_simp; done) | (go_simp; with_reducible rfl))); (· exact rfl); clear hS; intro w4 b4 hS)
    | ((with_reducible apply l_box (ty := 22) (y := (.tmp 2)) hS); (· (first | (go_simp; done) | (go_simp; with_reducible rfl))); (· exact rfl); clear hS; intro w5 b5 hS)
    | ((with_reducible apply l_alloc (ty := 44) (dst := some 6) hS (.agg #[.slice none 0 0, .slice none 0 0, .int .i64 0, .bool false]) [.slice none 0 0, .slice none 0 0, .int .i64 0, .bool false]); (· kernel_rfl); (· rfl); clear hS; intro w6 b6 hS)
    | ((with_reducible apply l_load hS); (· (first | exact Try.underlying3 | exact Try.underlying22 | exact Try.underlying42)); (· exact rfl); (· exact rfl); (· (first | (apply Find.box; (· (repeat constructor)); rfl) | exact Find.mem (by assumption) | (apply Find.row; (· (repeat constructor)); assumption))))
    | ((with_reducible apply g_load hS); (· (first | exact Try.underlying3 | exact Try.underlying22 | exact Try.underlying42)); (· exact rfl); (· (first | rfl | (go_simp; done))); (· exact rfl); (· (first | (apply Find.box; (· (repeat constructor)); rfl) | exact Find.mem (by assumption) | (apply Find.row; (· (repeat constructor)); assumption))))
    | ((with_reducible apply l_loads hS); (· (first | exact rowT44)); (· exact rfl); (· (first | (apply Finds.box; (· (repeat constructor)); (· (repeat constructor)); done) | (refine Finds.mem2 (by assumption) ?_; first | rfl | assumption | (simp; done)) | (apply Finds.row; (· (repeat constructor)); (· assumption); (· rfl)))))
    | ((with_reducible apply g_loads hS); (· (first | exact rowT44)); (· (first | rfl | (go_simp; done))); (· exact rfl); (· (first | (apply Finds.box; (· (repeat constructor)); (· (repeat constructor)); done) | (refine Finds.mem2 (by assumption) ?_; first | rfl | assumption | (simp; done)) | (apply Finds.row; (· (repeat constructor)); (· assumption); (· rfl)))))
    | ((with_reducible apply l_stores hS); (· (first | exact rowT44)); (· exact rfl); (· exact rfl); (· exact rfl); (· (first | assumption | (simp [Value.oneCell']; done))); (· (repeat constructor)); (· (repeat constructor)); (· (repeat constructor)); clear hS; intro ws hS)
          | (go_at_call 69; refine (alive_c _ _ hS.inw _ _ HH.out).mono ?_; rintro e' w10 ⟨v10, m5, rfl, rfl, hk⟩; rw [HA.out]; replace hS := hS.call hk; have hle := hk.le; clear hk)
          | (go_at_call 70; refine (far_c _ _ hS.inw _ _ (dkL.mono hle HH.out) k).mono ?_; rintro e' w28 ⟨v28, m6, rfl, rfl, hk⟩; rw [← HF.out]; replace hS := hS.call hk; have hle6 := hle.trans hk.le; clear hk))
        all_goals (try simp only [bne_iff_ne, ne_eq, bne_eq_false_iff_eq, beq_iff_eq, beq_eq_false_iff_ne] at *)
        all_goals first
          | (refine ret_cell_tmp (n := 4) rfl rfl hS (by (repeat constructor)) (by rfl) dkRow rfl ?_
             have F1 := HF.out
             simp only [farD, eq_comm (a := true), eq_comm (a := false), decide_eq_true_eq, decide_eq_false_iff_not] at F1
             first
             | (have E := we_err (d := d) (k := k) (b := b) (we1 (.inl HK.out)) (by decide); exact close_err_o E.1 E.2 hS)
             | (have E := we_err (d := d) (k := k) (b := b) (we1 (.inr (by omega))) (by decide); exact close_err_o E.1 E.2 hS)
             | (have E := we_err (d := d) (k := k) (b := b) (we2 HK.out (by omega) HD.out) (by decide); exact close_err_o E.1 E.2 hS)
             | (have E := we_err (d := d) (k := k) (b := b) (we3 HK.out (by omega) HD.out (by omega)) (by decide); exact close_err_o E.1 E.2 hS)
             | (have E := we_err (d := d) (k := k) (b := b) (we4 HK.out (by omega) HD.out (by omega) (by omega)) (by decide); exact close_err_o E.1 E.2 hS))
          | skip
  have F1 := HF.out
  simp only [farD, eq_comm (a := false), decide_eq_false_iff_not] at F1
  have HL32 : Hid (b.length = 32) := by show _ = _; omega
  have HFF : Hid (0 ≤ k ∧ k < (d.dry.length : Int) / 32) := by show _ ∧ _; omega
  have HW : Hid (d.wet.length < 8192) := by have := HK.out.2.2.2.1; show _ < _; omega
  clear F1
  obtain ⟨m7, hS7, hle7, hb4⟩ := (hS.front (x := .box b4 _) (by (repeat constructor))).settleBox 0 rfl
  simp only [List.eraseIdx_cons_zero] at hS7
  obtain ⟨m8, hS8, hle8, hb5⟩ := (hS7.front (x := .box b5 _) (by (repeat constructor))).settleBox 0 rfl
  simp only [List.eraseIdx_cons_zero] at hS8
  have k4 := hle8 _ _ (hb4 0 _ rfl)
  have k5 := hb5 0 _ rfl
  have hle9 := hle6.trans (hle7.trans hle8)
  clear hS hS7 hb4 hb5
  refine (deed_o _ _ hS8.inw _ _ (dkL.mono hle9 HH.out) HK.out 72 _ ec (writeAct k b) (write1_c _ _ d k b4 b5 pb cb b k4 k5 (bytesL.mono hle9 HB.out) HIK.out HW.out) HO.out.1).mono ?_
  have hDD := (we_ok (d := d) (k := k) (b := b) (we5 HK.out HL32.out HD.out HFF.out (by have := HW.out; omega)))
  have HE1 := Lib.hid hDD.1
  have HE2 := Lib.hid hDD.2
  rw [← hDD.1, ← hDD.2]
  clear hDD
  obtain ⟨D', hD'⟩ : ∃ D', D' = writeD d k b := ⟨_, rfl⟩
  obtain ⟨E', hE'⟩ : ∃ E', E' = writeE d k b := ⟨_, rfl⟩
  rw [← hD', ← hE']
  have HDX := Lib.hid hD'
  have HEX := Lib.hid hE'
  clear hD' hE'
  rintro e' w38 ⟨vd38, q38, c38, m38, rfl, hq38, hf38, hi38, hl38, hk⟩
  have hS := hS8.callOwn hk
  simp only [List.cons_append, List.nil_append] at hS
  have HQ := Lib.hid hq38
  have HF2 := Lib.hid hf38
  have HI2 := Lib.hid hi38
  have HL2 := Lib.hid hl38
  obtain ⟨qd38, cd38, rfl⟩ := row_form (hS.row 0 rfl)
  clear hk hS8 hq38 hf38 hi38 hl38 k4 k5
  go_wp2_with (first 
    | ((with_reducible apply l_box (ty := 44) (y := (.tmp 0)) hS); (· (first | (go_simp; done) | (go_simp; with_reducible rfl))); (· exact rfl); clear hS; intro w3 b3 hS)
    | ((with_reducible apply l_box (ty := 3) (y := (.tmp 1)) hS); (· (first | (go_simp; done) | (go_simp; with_reducible rfl))); (· exact rfl); clear hS; intro w4 b4 hS)
    | ((with_reducible apply l_box (ty := 22) (y := (.tmp 2)) hS); (· (first | (go_simp; done) | (go_simp; with_reducible rfl))); (· exact rfl); clear hS; intro w5 b5 hS)
    | ((with_reducible apply l_alloc (ty := 44) (dst := some 6) hS (.agg #[.slice none 0 0, .slice none 0 0, .int .i64 0, .bool false]) [.slice none 0 0, .slice none 0 0, .int .i64 0, .bool false]); (· kernel_rfl); (· rfl); clear hS; intro w6 b6 hS)
    | ((with_reducible apply l_load hS); (· (first | exact Try.underlying3 | exact Try.underlying22 | exact Try.underlying42)); (· exact rfl); (· exact rfl); (· (first | (apply Find.box; (· (repeat constructor)); rfl) | exact Find.mem (by assumption) | (apply Find.row; (· (repeat constructor)); assumption))))
    | ((with_reducible apply g_load hS); (· (first | exact Try.underlying3 | exact Try.underlying22 | exact Try.underlying42)); (· exact rfl); (· (first | rfl | (go_simp; done))); (· exact rfl); (· (first | (apply Find.box; (· (repeat constructor)); rfl) | exact Find.mem (by assumption) | (apply Find.row; (· (repeat constructor)); assumption))))
    | ((with_reducible apply l_loads hS); (· (first | exact rowT44)); (· exact rfl); (· (first | (apply Finds.box; (· (repeat constructor)); (· (repeat constructor)); done) | (refine Finds.mem2 (by assumption) ?_; first | rfl | assumption | (simp; done)) | (apply Finds.row; (· (repeat constructor)); (· assumption); (· rfl)))))
    | ((with_reducible apply g_loads hS); (· (first | exact rowT44)); (· (first | rfl | (go_simp; done))); (· exact rfl); (· (first | (apply Finds.box; (· (repeat constructor)); (· (repeat constructor)); done) | (refine Finds.mem2 (by assumption) ?_; first | rfl | assumption | (simp; done)) | (apply Finds.row; (· (repeat constructor)); (· assumption); (· rfl)))))
    | ((with_reducible apply l_stores hS); (· (first | exact rowT44)); (· exact rfl); (· exact rfl); (· exact rfl); (· (first | assumption | (simp [Value.oneCell']; done))); (· (repeat constructor)); (· (repeat constructor)); (· (repeat constructor)); clear hS; intro ws hS))
  refine ret_cell_tmp (n := 4) rfl rfl hS (by (repeat constructor)) (by rfl) dkRow rfl ?_
  replace hS := hS.front (x := .row 5 1 (.slice qd38 _ cd38) _ _) (by (repeat constructor))
  rw [← HDX.out, ← HEX.out]
  exact ⟨_, _, _, m38, rfl, HQ.out, HF2.out, HI2.out, HL2.out, hS.drop _ (by simp)⟩
/-- Octets of the call's own, and an error, are handed back. -/
def RetBO (w : World) (m : Mem) (b : List Int) (E : Int) (e : Ending) (w' : World) : Prop :=
  ∃ v, e = .returned (.tuple #[v, .int .i64 E]) ∧ (∀ x ∈ b, InK .u8 x) ∧ b.length ≤ 140737488355328 ∧ St [] w m w' [.row 5 1 v b.length (b.map (.int .u8))] m
theorem read_o (m : Mem) (w : World) (hm : m.In w) (cs : List Value) (d : Dk) (h : dkL.rd m cs d) (k : Int) :
    Calls Try.prog 39 #[.agg cs.toArray, .int .i64 k] w (RetBO w m (readB d k) (readE d k)) := by
  have ho := octets_of h
  obtain ⟨v0, v1, _, h0, h1, _⟩ := dkL_open h
  obtain ⟨_, _, _, _, _, a3, _⟩ := Lay.list_open h0
  obtain ⟨_, _, _, _, _, _, b4⟩ := Lay.list_open h1
  obtain ⟨p, c, q, e, he, hd⟩ := dkL_at h hm
  rw [he]
  refine (read_any p c q e d k w hd).mono ?_
  rintro e' w' ⟨v, rfl, hr, hb⟩
  have hS := (St.start hm).add (.row 5 1 v (readB d k).length ((readB d k).map (.int .u8))) (grownBy_of_below hb) (Own.base (b' := 0) hr (Nat.zero_le _)) (fun bl hbl => by
    rcases hr.2 with ⟨rfl, _⟩ | ⟨g, cap, cur, rfl, hg, _⟩
    · cases hbl
    · cases hbl; exact hg)
  exact ⟨_, rfl, readB_inK ho k, readB_length (by simpa [Lay.int, kBytes] using a3) (wet_len b4) k, hS⟩
theorem read_ol (m : Mem) (w : World) (hm : m.In w) (cs : List Value) (d : Dk) (h : dkL.rd m cs d) (k : Int) :
    Calls Try.prog 39 #[.agg cs.toArray, .int .i64 k] w fun e w' => ∃ q c Y E, Hid (Y = readB d k) ∧ Hid (E = readE d k) ∧ e = .returned (.tuple #[.slice q Y.length c, .int .i64 E]) ∧ Hid (∀ x ∈ Y, InK .u8 x) ∧ Hid (Y.length ≤ 140737488355328) ∧ St [] w m w' [.row 5 1 (.slice q Y.length c) Y.length (Y.map (.int .u8))] m :=
  (read_o m w hm cs d h k).mono fun e w' ⟨v, h1, h2, h3, h4⟩ => by
    obtain ⟨q, c, rfl⟩ := row_form (h4.row 0 rfl)
    exact ⟨q, c, _, _, rfl, rfl, h1, h2, h3, h4⟩
theorem write_ol (m : Mem) (w : World) (hm : m.In w) (cs : List Value) (d : Dk) (h : dkL.rd m cs d) (k : Int) (hik : InK .i64 k) (vb : Value) (b : List Int) (hb : bytesL.rd m [vb] b) :
    Calls Try.prog 35 #[.agg cs.toArray, .int .i64 k, vb] w fun e w' => ∃ q c p a m' D E, Hid (D = writeD d k b) ∧ Hid (E = writeE d k b) ∧ e = .returned (.tuple #[.agg ([.slice q D.dry.length c, .slice p D.wet.length a, .int .i64 D.fuse, .bool D.dead] : List Value).toArray, .int .i64 E]) ∧
      Hid (wrL.list.rd m' [.slice p D.wet.length a] D.wet) ∧ Hid (InK .i64 D.fuse) ∧ Hid (∀ x ∈ D.dry, InK .u8 x) ∧ Hid (D.dry.length ≤ 140737488355328) ∧ St [] w m w' [.row 5 1 (.slice q D.dry.length c) D.dry.length (D.dry.map (.int .u8))] m' :=
  (write_o m w hm cs d h k hik vb b hb).mono fun e w' ⟨vd, p, a, m', h1, h2, h3, h4, h5, h6⟩ => by
    obtain ⟨q, c, rfl⟩ := row_form (h6.row 0 rfl)
    exact ⟨q, c, p, a, m', _, _, rfl, rfl, h1, h2, h3, h4, h5, h6⟩
/-- The copy of a disk, read from now on. -/
theorem copy_d (m : Mem) (w : World) (hm : m.In w) (cs : List Value) (d : Dk) (h : dkL.rd m cs d) :
    Calls Try.prog 42 #[.agg cs.toArray] w (Ret w m fun v m' => ∃ p c q a d', Hid (d' = d) ∧ v = .agg ([.slice p d'.dry.length c, .slice q d'.wet.length a, .int .i64 d'.fuse, .bool d'.dead] : List Value).toArray ∧ Hid (dkL.rd m' [.slice p d'.dry.length c, .slice q d'.wet.length a, .int .i64 d'.fuse, .bool d'.dead] d')) := by
  have ho := octets_of h
  obtain ⟨v0, v1, _, h0, h1, hf⟩ := dkL_open h
  obtain ⟨_, _, _, _, _, a3, _⟩ := Lay.list_open h0
  obtain ⟨_, _, _, _, _, b3, _⟩ := Lay.list_open h1
  refine (copy_c m w hm cs d h).mono ?_
  rintro e' w' ⟨vd, vq, cells, m', rfl, hc, hk⟩
  obtain ⟨m2, k1, k2, k3, k4⟩ := own_rd hk ho.1 hc (by simpa [Lay.int, kBytes] using a3) (by simpa [wrL, Lay.by] using b3)
  obtain ⟨p, c, rfl, _⟩ := Lay.list_open k3
  obtain ⟨q, a, rfl, _⟩ := Lay.list_open k4
  exact ⟨_, m2, rfl, ⟨p, c, q, a, d, rfl, rfl, dkL_mk k3 k4 hf⟩, k1⟩
theorem row_peek {X : List Nat} {w0 w : World} {m0 m : Mem} {es : List Ent} {v : Value} {n : Nat} {xs : List Int} (hS : St X w0 m0 w es m) (hM : Ent.row 5 1 v n (xs.map (.int .u8)) ∈ es) (hn : xs.length = n) (hin : ∀ x ∈ xs, InK .u8 x) (hl : xs.length ≤ 140737488355328) : bytesL.rd (World.mem w) [v] xs := by
  subst hn
  obtain ⟨i, hi⟩ := List.getElem?_of_mem hM
  have hown : Own .u8 5 w 0 v xs := hS.row i hi
  obtain ⟨p, c, rfl, r1, r2, r4⟩ := hown.rd
  exact ⟨p, c, rfl, r1, r2, by simpa [Lay.int, kBytes] using hl, rowInt hin fun h0 => r4 h0⟩
end Go.Proofs.Ytnmgiiaejpaeeaa
