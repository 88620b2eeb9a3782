/- Contracts and plain laws that the laws' proofs use, laid together (part 3). -/
import Derived.Test.YtnmgiiaejpaeeaaG2
import Derived.Test.YtnmgiiaejpaeeaaDk11
import Derived.Test.YtnmgiiaejpaeeaaStampRef2
import Derived.Test.YtnmgiiaejpaeeaaB
import Derived.ProofKit
import Derived.OpenShut
import Derived.SizedLaws
import Derived.WalkKit
import Derived.Deep.Slices
import Derived.DataReads
import Derived.ChangeSame
import Derived.Lib.SmallJoins
/- Contract of disk.Write over the state of a walk. -/
namespace Go.Proofs.Ytnmgiiaejpaeeaa
set_option linter.unusedVariables false
set_option linter.unusedSimpArgs false
open Go.RowKit Go.Shelf
set_option maxRecDepth 100000 in
set_option maxHeartbeats 4000000 in
theorem write1_c (m : Mem) (w : World) (d : Dk) (k : Int) (b4 b5 : Nat) (pb : Option Addr) (cb : Nat) (b : List Int) (hk : m ⟨b4, 0, none⟩ = some (.int .i64 k)) (hb5 : m ⟨b5, 0, none⟩ = some (.slice pb b.length cb)) (hb : bytesL.rd m [.slice pb b.length cb] b)
    (hik : InK .i64 k) (hw : d.wet.length < 8192) : Does w m 72 #[.pointer (some ⟨b4, 0, none⟩), .pointer (some ⟨b5, 0, none⟩)] d (writeAct k b) := by
  intro X W mW T qd qq cd cq cells f hX hbel hle hc hS
  have k4 := hle _ _ hk
  have k5 := hle _ _ hb5
  have HB := Lib.hid (bytesL.mono hle hb)
  have HC := Lib.hid hc
  have HW := Lib.hid hw
  have HIK := Lib.hid hik
  clear hk hb5 hb hle hc hbel hX hw hik
  go_enter Try.func72, Try.ntmps72
  go_wp2_with fail
  replace hS := hS.drew
  refine startL (S := Sx _ []) (by kernel_rfl) hS.sx0 (fun _ _ _ _ => trivial) (fun hHeld => ?_)
  focus (refine takeN 0 (v := ?_) rfl (by kernel_rfl) ?_ ?_; rotate_left; focus (intro w hSw; clear hSw; go_simp; try with_reducible rfl))
  try simp only [Act.put, nz1, nz2, nz3]
  focus (refine takeN 1 (v := ?_) rfl (by kernel_rfl) ?_ ?_; rotate_left; focus (intro w hSw; clear hSw; go_simp; try with_reducible rfl))
  try simp only [Act.put, nz1, nz2, nz3]
  focus (refine takeN 2 (v := ?_) rfl (by kernel_rfl) ?_ ?_; rotate_left; focus (intro w hSw; clear hSw; go_simp; try with_reducible rfl))
  try simp only [Act.put, nz1, nz2, nz3]
  focus (refine takeN 3 (v := ?_) rfl (by kernel_rfl) ?_ ?_; rotate_left; focus (intro w hSw; clear hSw; go_simp; try with_reducible rfl))
  try simp only [Act.put, nz1, nz2, nz3]
  refine takeN 5 rfl (by kernel_rfl) (yield_load rfl Try.underlying3 rfl rfl (by (first | (apply FindX.box; (· (repeat constructor)); rfl) | exact FindX.mem (by assumption)))) ?_
  try simp only [Act.put, nz1, nz2, nz3]
  refine takeN 6 rfl (by kernel_rfl) (yield_load rfl Try.underlying22 rfl rfl (by (first | (apply FindX.box; (· (repeat constructor)); rfl) | exact FindX.mem (by assumption)))) ?_
  try simp only [Act.put, nz1, nz2, nz3]
  refine wpAnyH_ready (rs := [4, 7]) (by kernel_rfl) (by simp) ?_
  refine consL 4 rfl (fun K hK => ?_) (consL 7 rfl (fun K hK => ?_) AllReadyH.nil)
  rotate_right
  focus
    rw [if_pos (by rfl)]; go_simp; refine (bclone_c _ _ hS.inw _ HB.out).mono ?_; rintro e' w11 ⟨q11, c11, news11, rfl, hc11, hk11⟩; replace hS := hS.callOwn hk11; clear hk11; go_wp2_with fail
    refine hK.out _ _ (by first | exact hS.sx0 | exact Sx.le (by assumption) hS.sx0) (fun hHeld => ?_)
    clear hK K
    try simp only [Act.put, nz1, nz2, nz3]
    focus (refine takeN 8 (v := ?_) rfl (by kernel_rfl) ?_ ?_; rotate_left; focus (intro w hSw; clear hSw; go_simp; try with_reducible rfl))
    try simp only [Act.put, nz1, nz2, nz3]
    refine wpAnyH_ready (rs := [4, 9]) (by kernel_rfl) (by simp) ?_
    refine consL 4 rfl (fun K hK => ?_) (consL 9 rfl (fun K hK => ?_) AllReadyH.nil)
    rotate_right
    focus
      (with_reducible apply s_lit el_wr hS (cs := [.int .i64 k, .slice q11 b.length c11])); (· decide); (· decide); (· kernel_rfl); clear hS; intro w13 b13 hS
      refine hK.out _ _ (by first | exact hS.sx0 | exact Sx.le (by assumption) hS.sx0) (fun hHeld => ?_)
      clear hK K
      try simp only [Act.put, nz1, nz2, nz3]
      refine wpAnyH_ready (rs := [4]) (by kernel_rfl) (by simp) ?_
      refine consL 4 rfl (fun K hK => ?_) AllReadyH.nil
      (with_reducible apply s_load hS); (· exact Try.underlying42); (· exact rfl); (· exact rfl); (· (first | (apply Find.box; (· (repeat constructor)); rfl) | exact Find.mem (by assumption) | (apply Find.row; (· (repeat constructor)); assumption)))
      refine hK.out _ _ (by first | exact hS.sx0 | exact Sx.le (by assumption) hS.sx0) (fun hHeld => ?_)
      clear hK K
      try simp only [Act.put, nz1, nz2, nz3]
      refine wpAnyH_ready (rs := [10]) (by kernel_rfl) (by simp) ?_
      refine consL 10 rfl (fun K hK => ?_) AllReadyH.nil
      (with_reducible apply s_appendB el_wr hS (by decide)); (· exact rfl); (· (repeat constructor)); (· exact rfl); (· (repeat constructor)); (· rfl); (· simp [Value.oneCell']); (· have := HW.out; omega); clear hS; intro w14 q14 c14 hS
      refine hK.out _ _ (by first | exact hS.sx0 | exact Sx.le (by assumption) hS.sx0) (fun hHeld => ?_)
      clear hK K
      try simp only [Act.put, nz1, nz2, nz3]
      focus (refine takeN 11 (v := ?_) rfl (by kernel_rfl) ?_ ?_; rotate_left; focus (intro w hSw; clear hSw; go_simp; try with_reducible rfl))
      try simp only [Act.put, nz1, nz2, nz3]
      focus (refine takeN 12 (v := ?_) rfl (by kernel_rfl) ?_ ?_; rotate_left; focus (intro w hSw; clear hSw; go_simp; try with_reducible rfl))
      try simp only [Act.put, nz1, nz2, nz3]
      refine wpAnyH_ready (rs := [13]) (by kernel_rfl) (by simp) ?_
      refine consL 13 rfl (fun K hK => ?_) AllReadyH.nil
      (with_reducible apply s_store hS); (· exact rowT42); (· exact rfl); (· (first | (go_simp; done) | (go_simp; with_reducible rfl))); (· (first | rfl | assumption | (simp [Value.oneCell']; done))); (· (repeat constructor)); (· (repeat constructor)); (· (repeat constructor)); clear hS; intro ws hS
      refine hK.out _ _ (by first | exact hS.sx0 | exact Sx.le (by assumption) hS.sx0) (fun hHeld => ?_)
      clear hK K
      try simp only [Act.put, nz1, nz2, nz3]
      refine wpAnyH_done (by kernel_rfl) ?_ _
      refine NoPanic.normal ?_
    rotate_right
    focus
      (with_reducible apply s_load hS); (· exact Try.underlying42); (· exact rfl); (· exact rfl); (· (first | (apply Find.box; (· (repeat constructor)); rfl) | exact Find.mem (by assumption) | (apply Find.row; (· (repeat constructor)); assumption)))
      refine hK.out _ _ (by first | exact hS.sx0 | exact Sx.le (by assumption) hS.sx0) (fun hHeld => ?_)
      clear hK K
      try simp only [Act.put, nz1, nz2, nz3]
      refine wpAnyH_ready (rs := [9]) (by kernel_rfl) (by simp) ?_
      refine consL 9 rfl (fun K hK => ?_) AllReadyH.nil
      (with_reducible apply s_lit el_wr hS (cs := [.int .i64 k, .slice q11 b.length c11])); (· decide); (· decide); (· kernel_rfl); clear hS; intro w13 b13 hS
      refine hK.out _ _ (by first | exact hS.sx0 | exact Sx.le (by assumption) hS.sx0) (fun hHeld => ?_)
      clear hK K
      try simp only [Act.put, nz1, nz2, nz3]
      refine wpAnyH_ready (rs := [10]) (by kernel_rfl) (by simp) ?_
      refine consL 10 rfl (fun K hK => ?_) AllReadyH.nil
      (with_reducible apply s_appendB el_wr hS (by decide)); (· exact rfl); (· (repeat constructor)); (· exact rfl); (· (repeat constructor)); (· rfl); (· simp [Value.oneCell']); (· have := HW.out; omega); clear hS; intro w14 q14 c14 hS
      refine hK.out _ _ (by first | exact hS.sx0 | exact Sx.le (by assumption) hS.sx0) (fun hHeld => ?_)
      clear hK K
      try simp only [Act.put, nz1, nz2, nz3]
      focus (refine takeN 11 (v := ?_) rfl (by kernel_rfl) ?_ ?_; rotate_left; focus (intro w hSw; clear hSw; go_simp; try with_reducible rfl))
      try simp only [Act.put, nz1, nz2, nz3]
      focus (refine takeN 12 (v := ?_) rfl (by kernel_rfl) ?_ ?_; rotate_left; focus (intro w hSw; clear hSw; go_simp; try with_reducible rfl))
      try simp only [Act.put, nz1, nz2, nz3]
      refine wpAnyH_ready (rs := [13]) (by kernel_rfl) (by simp) ?_
      refine consL 13 rfl (fun K hK => ?_) AllReadyH.nil
      (with_reducible apply s_store hS); (· exact rowT42); (· exact rfl); (· (first | (go_simp; done) | (go_simp; with_reducible rfl))); (· (first | rfl | assumption | (simp [Value.oneCell']; done))); (· (repeat constructor)); (· (repeat constructor)); (· (repeat constructor)); clear hS; intro ws hS
      refine hK.out _ _ (by first | exact hS.sx0 | exact Sx.le (by assumption) hS.sx0) (fun hHeld => ?_)
      clear hK K
      try simp only [Act.put, nz1, nz2, nz3]
      refine wpAnyH_done (by kernel_rfl) ?_ _
      refine NoPanic.normal ?_
  rotate_right
  focus
    (with_reducible apply s_load hS); (· exact Try.underlying42); (· exact rfl); (· exact rfl); (· (first | (apply Find.box; (· (repeat constructor)); rfl) | exact Find.mem (by assumption) | (apply Find.row; (· (repeat constructor)); assumption)))
    refine hK.out _ _ (by first | exact hS.sx0 | exact Sx.le (by assumption) hS.sx0) (fun hHeld => ?_)
    clear hK K
    try simp only [Act.put, nz1, nz2, nz3]
    refine wpAnyH_ready (rs := [7]) (by kernel_rfl) (by simp) ?_
    refine consL 7 rfl (fun K hK => ?_) AllReadyH.nil
    rw [if_pos (by rfl)]; go_simp; refine (bclone_c _ _ hS.inw _ HB.out).mono ?_; rintro e' w11 ⟨q11, c11, news11, rfl, hc11, hk11⟩; replace hS := hS.callOwn hk11; clear hk11; go_wp2_with fail
    refine hK.out _ _ (by first | exact hS.sx0 | exact Sx.le (by assumption) hS.sx0) (fun hHeld => ?_)
    clear hK K
    try simp only [Act.put, nz1, nz2, nz3]
    focus (refine takeN 8 (v := ?_) rfl (by kernel_rfl) ?_ ?_; rotate_left; focus (intro w hSw; clear hSw; go_simp; try with_reducible rfl))
    try simp only [Act.put, nz1, nz2, nz3]
    refine wpAnyH_ready (rs := [9]) (by kernel_rfl) (by simp) ?_
    refine consL 9 rfl (fun K hK => ?_) AllReadyH.nil
    (with_reducible apply s_lit el_wr hS (cs := [.int .i64 k, .slice q11 b.length c11])); (· decide); (· decide); (· kernel_rfl); clear hS; intro w13 b13 hS
    refine hK.out _ _ (by first | exact hS.sx0 | exact Sx.le (by assumption) hS.sx0) (fun hHeld => ?_)
    clear hK K
    try simp only [Act.put, nz1, nz2, nz3]
    refine wpAnyH_ready (rs := [10]) (by kernel_rfl) (by simp) ?_
    refine consL 10 rfl (fun K hK => ?_) AllReadyH.nil
    (with_reducible apply s_appendB el_wr hS (by decide)); (· exact rfl); (· (repeat constructor)); (· exact rfl); (· (repeat constructor)); (· rfl); (· simp [Value.oneCell']); (· have := HW.out; omega); clear hS; intro w14 q14 c14 hS
    refine hK.out _ _ (by first | exact hS.sx0 | exact Sx.le (by assumption) hS.sx0) (fun hHeld => ?_)
    clear hK K
    try simp only [Act.put, nz1, nz2, nz3]
    focus (refine takeN 11 (v := ?_) rfl (by kernel_rfl) ?_ ?_; rotate_left; focus (intro w hSw; clear hSw; go_simp; try with_reducible rfl))
    try simp only [Act.put, nz1, nz2, nz3]
    focus (refine takeN 12 (v := ?_) rfl (by kernel_rfl) ?_ ?_; rotate_left; focus (intro w hSw; clear hSw; go_simp; try with_reducible rfl))
    try simp only [Act.put, nz1, nz2, nz3]
    refine wpAnyH_ready (rs := [13]) (by kernel_rfl) (by simp) ?_
    refine consL 13 rfl (fun K hK => ?_) AllReadyH.nil
    (with_reducible apply s_store hS); (· exact rowT42); (· exact rfl); (· (first | (go_simp; done) | (go_simp; with_reducible rfl))); (· (first | rfl | assumption | (simp [Value.oneCell']; done))); (· (repeat constructor)); (· (repeat constructor)); (· (repeat constructor)); clear hS; intro ws hS
    refine hK.out _ _ (by first | exact hS.sx0 | exact Sx.le (by assumption) hS.sx0) (fun hHeld => ?_)
    clear hK K
    try simp only [Act.put, nz1, nz2, nz3]
    refine wpAnyH_done (by kernel_rfl) ?_ _
    refine NoPanic.normal ?_
  all_goals
    go_wp2_with fail
    go_end0
    obtain ⟨m7, hS7, hle7, hrd⟩ := (hS.front (x := .row 5 _ (.slice q11 _ _) _ _) (by (repeat constructor))).settleRow (L := u8L) 0 rfl hc11 (by obtain ⟨_, _, e, _, _, h3, _⟩ := HB.out; exact h3)
    have hlen : d.wet.length + 1 = (d.wet ++ [(⟨k, b⟩ : Wr)]).length := by simp
    rw [hlen] at hS7
    obtain ⟨m8, hS8, hle8, hrd8⟩ := (hS7.front (x := .row 102 _ _ _ _) (by (repeat constructor))).settleRow (L := wrL) (xs := d.wet ++ [⟨k, b⟩]) 0 rfl ((HC.out.mono hle7).snoc (wrL_mk (x := ⟨k, b⟩) HIK.out hrd)) (by have := HW.out; simp [wrL, Lay.by]; omega)
    replace hS8 := (hS8.forget (x := .box b13 _) (by (repeat constructor))).front (x := .box T _) (by (repeat constructor))
    exact ⟨rfl, _, m8, hrd8, rfl, hS8⟩
set_option maxRecDepth 100000 in
set_option maxHeartbeats 4000000 in
theorem write_c (m : Mem) (w : World) (hm : m.In w) (cs : List Value) (d : Dk) (h : dkL.rd m cs d) (k : Int) (hik : InK .i64 k) (vb : Value) (b : List Int) (hb : bytesL.rd m [vb] b) :
    Calls Try.prog 35 #[.agg cs.toArray, .int .i64 k, vb] w (RetDE w m (writeD d k b) (writeE d k b)) := by
  have HH := Lib.hid h
  have HO := Lib.hid (octets_of h)
  have HB := Lib.hid hb
  obtain ⟨v0, v1, rfl, h0, h1, _⟩ := dkL_open h
  obtain ⟨p0, c0, rfl, _⟩ := Lay.list_open h0
  obtain ⟨p1, c1, rfl, b1, b2, _⟩ := Lay.list_open h1
  obtain ⟨pb, cb, rfl, e1, e2, _⟩ := Lay.list_open hb
  have hS := St.start hm
  have HIK := Lib.hid hik
  simp only [maxLen] at b2 e2
  clear h h0 h1 hb hik
  have ec := enters_of Try.func72 (by kernel_rfl) rfl
  have ways : (aliveE d = 0 ∧ checkOK d ∧ d.dead = false) ∨ (aliveE d = 1 ∧ ¬ checkOK d ∧ True) ∨ (aliveE d = 11 ∧ checkOK d ∧ d.dead = true) := by
    rcases checkE_cases d with ⟨_, h⟩ | ⟨_, h⟩
    · cases hd : d.dead
      · exact .inl ⟨(alive_of hd).1 h, h, rfl⟩
      · exact .inr (.inr ⟨(alive_of hd).1 h, h, rfl⟩)
    · exact .inr (.inl ⟨(alive_of rfl).2 h, h, trivial⟩)
  rcases ways with ⟨hA, hok, hdd⟩ | ⟨hA, hok, hdd⟩ | ⟨hA, hok, hdd⟩
  all_goals
      have HK := Lib.hid hok
      have HD := Lib.hid hdd
      have HA := Lib.hid hA
      clear hok hA hdd
      obtain ⟨F, hF⟩ : ∃ F, F = farD d k := ⟨_, rfl⟩
      have HF := Lib.hid hF
      cases F
      all_goals
        clear hF
        go_enter Try.func35, Try.ntmps35
        go_wp2_with (first 
    | ((with_reducible apply l_box (ty := 44) (y := (.tmp 0)) hS); (· (first | (go_simp; done) | (go_simp; with_reducible rfl))); (· exact rfl); clear hS; intro w3 b3 hS)
    | ((with_reducible apply l_box (ty := 3) (y := (.tmp 1)) hS); (· (first | (go_simp; done) | (go_simp; with_reducible rfl))); (· exact rfl); clear hS; intro w4 b4 hS)
    | ((with_reducible apply l_box (ty := 22) (y := (.tmp 2)) hS); (· (first | (go_simp; done) | (go_simp; with_reducible rfl))); (· exact rfl); clear hS; intro w5 b5 hS)
    | ((with_reducible apply l_alloc (ty := 44) (dst := some 6) hS (.agg #[.slice none 0 0, .slice none 0 0, .int .i64 0, .bool false]) [.slice none 0 0, .slice none 0 0, .int .i64 0, .bool false]); (· kernel_rfl); (· rfl); clear hS; intro w6 b6 hS)
    | ((with_reducible apply l_load hS); (· (first | exact Try.underlying3 | exact Try.underlying22 | exact Try.underlying42)); (· exact rfl); (· exact rfl); (· (first | (apply Find.box; (· (repeat constructor)); rfl) | exact Find.mem (by assumption) | (apply Find.row; (· (repeat constructor)); assumption))))
    | ((with_reducible apply g_load hS); (· (first | exact Try.underlying3 | exact Try.underlying22 | exact Try.underlying42)); (· exact rfl); (· (first | rfl | (go_simp; done))); (· exact rfl); (· (first | (apply Find.box; (· (repeat constructor)); rfl) | exact Find.mem (by assumption) | (apply Find.row; (· (repeat constructor)); assumption))))
    | ((with_reducible apply l_loads hS); (· (first | exact rowT44)); (· exact rfl); (· (first | (apply Finds.box; (· (repeat constructor)); (· (repeat constructor)); done) | (refine Finds.mem2 (by assumption) ?_; first | rfl | assumption | (simp; done)) | (apply Finds.row; (· (repeat constructor)); (· assumption); (· rfl)))))
    | ((with_reducible apply g_loads hS); (· (first | exact rowT44)); (· (first | rfl | (go_simp; done))); (· exact rfl); (· (first | (apply Finds.box; (· (repeat constructor)); (· (repeat constructor)); done) | (refine Finds.mem2 (by assumption) ?_; first | rfl | assumption | (simp; done)) | (apply Finds.row; (· (repeat constructor)); (· assumption); (· rfl)))))
    | ((with_reducible apply l_stores hS); (· (first | exact rowT44)); (· exact rfl); (· exact rfl); (· exact rfl); (· (first | assumption | (simp [Value.oneCell']; done))); (· (repeat constructor)); (· (repeat constructor)); (· (repeat constructor)); clear hS; intro ws hS)
          | (go_at_call 69; refine (alive_c _ _ hS.inw _ _ HH.out).mono ?_; rintro e' w10 ⟨v10, m5, rfl, rfl, hk⟩; rw [HA.out]; replace hS := hS.call hk; have hle := hk.le; clear hk)
          | (go_at_call 70; refine (far_c _ _ hS.inw _ _ (dkL.mono hle HH.out) k).mono ?_; rintro e' w28 ⟨v28, m6, rfl, rfl, hk⟩; rw [← HF.out]; replace hS := hS.call hk; have hle6 := hle.trans hk.le; clear hk))
        all_goals (try simp only [bne_iff_ne, ne_eq, bne_eq_false_iff_eq, beq_iff_eq, beq_eq_false_iff_ne] at *)
        all_goals first
          | (refine ret_cell_tmp (n := 4) rfl rfl hS (by (repeat constructor)) (by rfl) dkRow rfl ?_
             have F1 := HF.out
             simp only [farD, eq_comm (a := true), eq_comm (a := false), decide_eq_true_eq, decide_eq_false_iff_not] at F1
             first
             | (have E := we_err (d := d) (k := k) (b := b) (we1 (.inl HK.out)) (by decide); exact close_err E.1 E.2 hS)
             | (have E := we_err (d := d) (k := k) (b := b) (we1 (.inr (by omega))) (by decide); exact close_err E.1 E.2 hS)
             | (have E := we_err (d := d) (k := k) (b := b) (we2 HK.out (by omega) HD.out) (by decide); exact close_err E.1 E.2 hS)
             | (have E := we_err (d := d) (k := k) (b := b) (we3 HK.out (by omega) HD.out (by omega)) (by decide); exact close_err E.1 E.2 hS)
             | (have E := we_err (d := d) (k := k) (b := b) (we4 HK.out (by omega) HD.out (by omega) (by omega)) (by decide); exact close_err E.1 E.2 hS))
          | skip
  have F1 := HF.out
  simp only [farD, eq_comm (a := false), decide_eq_false_iff_not] at F1
  have HL32 : Hid (b.length = 32) := by show _ = _; omega
  have HFF : Hid (0 ≤ k ∧ k < (d.dry.length : Int) / 32) := by show _ ∧ _; omega
  have HW : Hid (d.wet.length < 8192) := by have := HK.out.2.2.2.1; show _ < _; omega
  clear F1
  obtain ⟨m7, hS7, hle7, hb4⟩ := (hS.front (x := .box b4 _) (by (repeat constructor))).settleBox 0 rfl
  simp only [List.eraseIdx_cons_zero] at hS7
  obtain ⟨m8, hS8, hle8, hb5⟩ := (hS7.front (x := .box b5 _) (by (repeat constructor))).settleBox 0 rfl
  simp only [List.eraseIdx_cons_zero] at hS8
  have k4 := hle8 _ _ (hb4 0 _ rfl)
  have k5 := hb5 0 _ rfl
  have hle9 := hle6.trans (hle7.trans hle8)
  clear hS hS7 hb4 hb5
  refine (deed_c _ _ hS8.inw _ _ (dkL.mono hle9 HH.out) HK.out 72 _ ec (writeAct k b) (write1_c _ _ d k b4 b5 pb cb b k4 k5 (bytesL.mono hle9 HB.out) HIK.out HW.out) HO.out.1).mono ?_
  rintro e' w38 ⟨v38, m38, rfl, ⟨cs38, rfl, hr38⟩, hk⟩
  have hS := hS8.call hk
  clear hk hS8
  have HR := Lib.hid hr38
  have hone := dkL.one hr38
  obtain ⟨u0, u1, rfl, _⟩ := dkL_open hr38
  clear hr38 k4 k5
  go_wp2_with (first 
    | ((with_reducible apply l_box (ty := 44) (y := (.tmp 0)) hS); (· (first | (go_simp; done) | (go_simp; with_reducible rfl))); (· exact rfl); clear hS; intro w3 b3 hS)
    | ((with_reducible apply l_box (ty := 3) (y := (.tmp 1)) hS); (· (first | (go_simp; done) | (go_simp; with_reducible rfl))); (· exact rfl); clear hS; intro w4 b4 hS)
    | ((with_reducible apply l_box (ty := 22) (y := (.tmp 2)) hS); (· (first | (go_simp; done) | (go_simp; with_reducible rfl))); (· exact rfl); clear hS; intro w5 b5 hS)
    | ((with_reducible apply l_alloc (ty := 44) (dst := some 6) hS (.agg #[.slice none 0 0, .slice none 0 0, .int .i64 0, .bool false]) [.slice none 0 0, .slice none 0 0, .int .i64 0, .bool false]); (· kernel_rfl); (· rfl); clear hS; intro w6 b6 hS)
    | ((with_reducible apply l_load hS); (· (first | exact Try.underlying3 | exact Try.underlying22 | exact Try.underlying42)); (· exact rfl); (· exact rfl); (· (first | (apply Find.box; (· (repeat constructor)); rfl) | exact Find.mem (by assumption) | (apply Find.row; (· (repeat constructor)); assumption))))
    | ((with_reducible apply g_load hS); (· (first | exact Try.underlying3 | exact Try.underlying22 | exact Try.underlying42)); (· exact rfl); (· (first | rfl | (go_simp; done))); (· exact rfl); (· (first | (apply Find.box; (· (repeat constructor)); rfl) | exact Find.mem (by assumption) | (apply Find.row; (· (repeat constructor)); assumption))))
    | ((with_reducible apply l_loads hS); (· (first | exact rowT44)); (· exact rfl); (· (first | (apply Finds.box; (· (repeat constructor)); (· (repeat constructor)); done) | (refine Finds.mem2 (by assumption) ?_; first | rfl | assumption | (simp; done)) | (apply Finds.row; (· (repeat constructor)); (· assumption); (· rfl)))))
    | ((with_reducible apply g_loads hS); (· (first | exact rowT44)); (· (first | rfl | (go_simp; done))); (· exact rfl); (· (first | (apply Finds.box; (· (repeat constructor)); (· (repeat constructor)); done) | (refine Finds.mem2 (by assumption) ?_; first | rfl | assumption | (simp; done)) | (apply Finds.row; (· (repeat constructor)); (· assumption); (· rfl)))))
    | ((with_reducible apply l_stores hS); (· (first | exact rowT44)); (· exact rfl); (· exact rfl); (· exact rfl); (· (first | assumption | (simp [Value.oneCell']; done))); (· (repeat constructor)); (· (repeat constructor)); (· (repeat constructor)); clear hS; intro ws hS))
  refine ret_cell_tmp (n := 4) rfl rfl hS (by (repeat constructor)) (by rfl) dkRow rfl ?_
  have E := we_ok (d := d) (k := k) (b := b) (we5 HK.out HL32.out HD.out HFF.out (by have := HW.out; omega))
  rw [E.1, E.2]
  exact ⟨_, _, rfl, ⟨_, rfl, HR.out⟩, hS.done⟩
end Go.Proofs.Ytnmgiiaejpaeeaa
/- Contracts of package disk over the state of a walk: Lit, New; the reference's New; the law's sector. -/
namespace Go.Proofs.Ytnmgiiaejpaeeaa
set_option linter.unusedVariables false
set_option linter.unusedSimpArgs false
open Go.RowKit Go.Shelf
theorem made_u8 (n : Nat) : (madeCells (Value.int .u8 0).cells (n * 1)).toList = (List.replicate n (0 : Int)).map (.int .u8) := by
  show (madeCells #[Value.int .u8 0] (n * 1)).toList = _
  rw [madeCells_one]; simp
theorem cells_of_ints {k : IntKind} {m : Mem} {xs : List Int} (hk : ∀ x ∈ xs, InK k x) : CellsOf (Lay.int k) m (xs.map (.int k)) xs := by
  refine ⟨xs.map fun x => [.int k x], ?_, by simp, fun i cs x h3 h4 => ?_⟩
  · clear hk
    induction xs with
    | nil => rfl
    | cons x xs ih => simp [ih]
  · simp only [List.getElem?_map, h4, Option.map_some, Option.some.injEq] at h3
    subst h3
    exact ⟨rfl, hk _ (List.mem_of_getElem? h4)⟩
set_option maxRecDepth 100000 in
set_option maxHeartbeats 4000000 in
theorem sector_c (m : Mem) (w : World) (hm : m.In w) (c : Int) (hc : InK .u8 c) :
    Calls Try.prog 36 #[.int .u8 c] w (Ret w m fun v m' => bytesL.rd m' [v] (List.replicate 32 c)) := by
  have hS := St.start hm
  have HC := Lib.hid hc
  clear hc
  go_enter Try.func36, Try.ntmps36
  go_wp2_with (first
    | ((with_reducible apply l_make el_u8 32 hS); (· exact rfl); (· exact rfl); (· rfl); (· rfl); (· decide); (· decide); (· decide); clear hS; intro w3 b3 hS)
    | ((with_reducible apply l_store hS); (· (first | exact rowT5)); (· exact rfl); (· (first | (go_simp; done) | (go_simp; with_reducible rfl))); (· (first | rfl | assumption | (simp [Value.oneCell']; done))); (· (repeat constructor)); (· (repeat constructor)); (· (repeat constructor)); clear hS; intro ws hS)
    | ((with_reducible apply l_storeR hS); (· (first | exact rowT5)); (· exact rfl); (· (first | (go_simp; done) | (go_simp; with_reducible rfl))); (· (first | rfl | assumption | (simp [Value.oneCell']; done))); (· (repeat constructor)); (· (first | assumption | omega | (simp; omega))); clear hS; intro ws hS))
  simp only [made_u8] at hS
  go_loopw [8] (fun i wr => ∃ k : Nat, k ≤ 32 ∧ i = .int .i64 k ∧ St [] w m wr [.row 5 1 (.slice (some ⟨b3, 0, none⟩) 32 32) 32 ((List.replicate k c ++ List.replicate (32 - k) 0).map (.int .u8))] m) (fun i _ => 32 - (intOf i).toNat)
  case atStart => exact ⟨0, Nat.zero_le _, rfl, hS⟩
  case round =>
    clear hS
    obtain ⟨k, hk, rfl, hS⟩ := hrel
    by_cases hlt : k < 32
    · have hl : k < ((List.replicate k c ++ List.replicate (32 - k) 0).map (Value.int .u8)).length := by simp; omega
      have hset : ((List.replicate k c ++ List.replicate (32 - k) 0).map (Value.int .u8)).set k (.int .u8 c) = (List.replicate (k + 1) c ++ List.replicate (32 - (k + 1)) 0).map (Value.int .u8) := by
        rw [← List.map_set, show 32 - k = (32 - (k + 1)) + 1 by omega, List.replicate_succ (n := 32 - (k + 1)), List.set_append_right _ _ (by simp)]
        simp [List.replicate_succ']
      have HSET := Lib.hid hset
      clear hset
      go_wp2_with (first
    | ((with_reducible apply l_store hS); (· (first | exact rowT5)); (· exact rfl); (· (first | (go_simp; done) | (go_simp; with_reducible rfl))); (· (first | rfl | assumption | (simp [Value.oneCell']; done))); (· (repeat constructor)); (· (repeat constructor)); (· (repeat constructor)); clear hS; intro ws hS)
    | ((with_reducible apply l_storeR hS); (· (first | exact rowT5)); (· exact rfl); (· (first | (go_simp; done) | (go_simp; with_reducible rfl))); (· (first | rfl | assumption | (simp [Value.oneCell']; done))); (· (repeat constructor)); (· (first | assumption | omega | (simp; omega))); clear hS; intro ws hS))
      rw [HSET.out] at hS
      go_roundw
      case rel => exact ⟨k + 1, hlt, by go_num, hS⟩
      case measure => simp [intOf]; omega
    · obtain rfl : k = 32 := by omega
      go_wp2_with (first
    | ((with_reducible apply l_store hS); (· (first | exact rowT5)); (· exact rfl); (· (first | (go_simp; done) | (go_simp; with_reducible rfl))); (· (first | rfl | assumption | (simp [Value.oneCell']; done))); (· (repeat constructor)); (· (repeat constructor)); (· (repeat constructor)); clear hS; intro ws hS)
    | ((with_reducible apply l_storeR hS); (· (first | exact rowT5)); (· exact rfl); (· (first | (go_simp; done) | (go_simp; with_reducible rfl))); (· (first | rfl | assumption | (simp [Value.oneCell']; done))); (· (repeat constructor)); (· (first | assumption | omega | (simp; omega))); clear hS; intro ws hS))
      go_ret
      rw [show (List.replicate 32 c ++ List.replicate (32 - 32) (0 : Int)) = List.replicate 32 c from List.append_nil _] at hS
      obtain ⟨m7, hS7, _, hrd⟩ := hS.settleRow (L := u8L) (xs := List.replicate 32 c) 0 rfl (cells_of_ints fun x hx => by rw [(List.mem_replicate.1 hx).2]; exact HC.out) (by rw [List.length_replicate]; decide)
      exact ⟨_, m7, rfl, hrd, hS7.done⟩
set_option maxRecDepth 100000 in
set_option maxHeartbeats 4000000 in
theorem new_c (m : Mem) (w : World) (hm : m.In w) (n : Int) : Calls Try.prog 34 #[.int .i64 n] w (RetDE w m (newD n) (newE n)) := by
  have hS := St.start hm
  by_cases h : 1 ≤ n ∧ n ≤ 8192
  · obtain ⟨k, rfl⟩ : ∃ k : Nat, n = k := ⟨n.toNat, by omega⟩
    obtain ⟨h1, h2⟩ := h
    have H1 := Lib.hid (by omega : 1 ≤ k)
    have H2 := Lib.hid (by omega : k ≤ 8192)
    have E := Lib.hid (show newE k = 0 from if_neg (by omega))
    have D := Lib.hid (show newD k = ⟨List.replicate (k * 32) 0, [], -1, false⟩ from by unfold newD; rw [if_neg (by omega)]; simp)
    have hk := H2.out
    go_enter Try.func34, Try.ntmps34
    go_wp2_with (first
    | ((with_reducible apply l_alloc (ty := 44) (dst := some 2) hS (.agg #[.slice none 0 0, .slice none 0 0, .int .i64 0, .bool false]) [.slice none 0 0, .slice none 0 0, .int .i64 0, .bool false]); (· kernel_rfl); (· rfl); clear hS; intro w2 b2 hS)
    | ((with_reducible apply l_stores hS); (· (first | exact rowT44)); (· exact rfl); (· exact rfl); (· exact rfl); (· (first | assumption | (simp [Value.oneCell']; done))); (· (repeat constructor)); (· (repeat constructor)); (· (repeat constructor)); clear hS; intro ws hS)
      | ((with_reducible apply l_make el_u8 (k * 32) hS); (· exact rfl); (· exact rfl); (· omega); (· omega); (· omega); (· omega); (· simp only [maxLen]; omega); clear hS; intro w13 b13 hS; simp only [made_u8] at hS))
    refine ret_cell_tmp (n := 4) rfl rfl hS (by (repeat constructor)) (by rfl) dkRow rfl ?_
    rw [D.out]
    exact close_half E.out rfl rfl (inK64 (by omega) (by omega)) (by simp only [List.length_replicate]; exact hS) (fun x hx => by rw [(List.mem_replicate.1 hx).2]; simp [InK, IntKind.min, IntKind.max, IntKind.signed, IntKind.bits]) (Lay.nil_rd _ _) (by simp; omega)
  · have h' : n < 1 ∨ 8192 < n := by omega
    have E := Lib.hid (show newE n = 1 from if_pos h')
    have D := Lib.hid (show newD n = dk0 from if_pos h')
    rcases h' with h1 | h1
    all_goals
      clear h
      go_enter Try.func34, Try.ntmps34
      go_wp2_with (first
    | ((with_reducible apply l_alloc (ty := 44) (dst := some 2) hS (.agg #[.slice none 0 0, .slice none 0 0, .int .i64 0, .bool false]) [.slice none 0 0, .slice none 0 0, .int .i64 0, .bool false]); (· kernel_rfl); (· rfl); clear hS; intro w2 b2 hS)
    | ((with_reducible apply l_stores hS); (· (first | exact rowT44)); (· exact rfl); (· exact rfl); (· exact rfl); (· (first | assumption | (simp [Value.oneCell']; done))); (· (repeat constructor)); (· (repeat constructor)); (· (repeat constructor)); clear hS; intro ws hS))
      refine ret_cell_tmp (n := 4) rfl rfl hS (by (repeat constructor)) (by rfl) dkRow rfl ?_
      exact close_err E.out D.out hS
end Go.Proofs.Ytnmgiiaejpaeeaa
/- Contract of disk.Read. -/
namespace Go.Proofs.Ytnmgiiaejpaeeaa
set_option linter.unusedVariables false
set_option linter.unusedSimpArgs false
open Go.RowKit Go.Shelf
attribute [local go_sem] Oper.semAt_some
theorem box_four' (w : World) (a b c d : List Value) (t u v x : TypeId) : BoxOf ((((w.alloc (.cells a.toArray t)).alloc (.cells b.toArray u)).alloc (.cells c.toArray v)).alloc (.cells d.toArray x)) w.heap.size a ∧ BoxOf ((((w.alloc (.cells a.toArray t)).alloc (.cells b.toArray u)).alloc (.cells c.toArray v)).alloc (.cells d.toArray x)) (w.heap.size + 1) b ∧ BoxOf ((((w.alloc (.cells a.toArray t)).alloc (.cells b.toArray u)).alloc (.cells c.toArray v)).alloc (.cells d.toArray x)) (w.heap.size + 2) c ∧ BoxOf ((((w.alloc (.cells a.toArray t)).alloc (.cells b.toArray u)).alloc (.cells c.toArray v)).alloc (.cells d.toArray x)) (w.heap.size + 3) d := by
  have h2 := box_two' w a b t u
  have h3 := BoxOf.new ((w.alloc (.cells a.toArray t)).alloc (.cells b.toArray u)) c v
  have h4 := BoxOf.new (((w.alloc (.cells a.toArray t)).alloc (.cells b.toArray u)).alloc (.cells c.toArray v)) d x
  rw [size_alloc, size_alloc] at h3
  rw [size_alloc, size_alloc, size_alloc] at h4
  exact ⟨(h2.1.alloc _).alloc _, (h2.2.alloc _).alloc _, h3.alloc _, h4⟩
theorem BoxOf.kept {W W' : World} {B T : Nat} {row : Option Nat} {vs : List Value} (h : BoxOf W T vs) (hg : W.grownBy W' row) (hr : ∀ r, row = some r → B ≤ r ∧ ∃ o : Obj, W.heap[r]? = some o ∧ o.isCells = false) : BoxOf W' T vs :=
  h.grownR hg fun e => by
    obtain ⟨_, o, ho, hc⟩ := hr T e.symm
    obtain ⟨t, ht⟩ := h
    rw [ht] at ho
    cases ho
    cases hc
theorem ownRow_kept {W W' : World} {B b n m : Nat} {e : TypeId} {row : Option Nat} {v : Value} {xs : List Value} (h : W.ownsRow b e n v m xs) (hg : W.grownBy W' row) (hr : ∀ r, row = some r → B ≤ r ∧ ∃ o : Obj, W.heap[r]? = some o ∧ o.isCells = false) : W'.ownsRow b e n v m xs := by
  refine h.kept hg ?_
  rcases h.2 with ⟨rfl, _⟩ | ⟨g, cap, cur, rfl, _, hh, _⟩
  · exact .inl rfl
  · refine .inr fun e => ?_
    obtain ⟨_, o, ho, hc⟩ := hr g e.symm
    rw [hh] at ho
    cases ho
    cases hc
theorem keepsFrom_below {B : Nat} {W W' : World} (h : Below W.heap.size W W') : KeepsFrom B W W' :=
  ⟨h.size, fun k o _ hk _ => (h.block k (Array.getElem?_eq_some_iff.1 hk).1).trans hk⟩
theorem Own.setOther {k : IntKind} {e : TypeId} {W : World} {B : Nat} {v : Value} {xs : List Int} (h : Own k e W B v xs) (T : Nat) (u : Value) (hT : T < B) : Own k e (W.setCell ⟨T, 0, none⟩ u) B v xs := by
  refine h.kept (grownBy_setCell' W T u) ?_
  rcases h.2 with ⟨rfl, _⟩ | ⟨g, cap, cur, rfl, hg, _⟩
  · exact .inl rfl
  · exact .inr fun e => by have := Option.some.inj (show some g = some T from e); omega
theorem lastOf_none {k : Int} {l : List Wr} (h : ∀ x ∈ l, x.pos ≠ k) : lastOf k l = none := by
  induction l with
  | nil => rfl
  | cons x l ih =>
    unfold lastOf
    rw [if_neg (h x (by simp)), ih (fun y hy => h y (by simp [hy]))]
theorem lastOf_prefix {k : Int} {l r : List Wr} {b : List Int} (h : lastOf k l = some b) : lastOf k (l ++ r) = some b := by
  induction l with
  | nil => cases h
  | cons x l ih =>
    unfold lastOf at h
    rw [List.cons_append]
    unfold lastOf
    split at h
    · rw [if_pos ‹_›]; exact h
    · rw [if_neg ‹_›]; exact ih h
theorem lastOf_snoc {k : Int} {l : List Wr} {x : Wr} (h : ∀ y ∈ l, y.pos ≠ k) (hx : x.pos = k) : lastOf k (l ++ [x]) = some x.b := by
  induction l with
  | nil => show (if x.pos = k then some x.b else lastOf k []) = some x.b; rw [if_pos hx]
  | cons y l ih =>
    rw [List.cons_append]
    unfold lastOf
    rw [if_neg (h y (by simp)), ih (fun z hz => h z (by simp [hz]))]
set_option maxRecDepth 100000 in
set_option maxHeartbeats 4000000 in
theorem read_any (p : Option Addr) (c : Nat) (q : Option Addr) (e : Nat) (d : Dk) (k : Int) (w : World) (h : DkAt w p c q e d) :
    Calls Try.prog 39 #[dkV p c q e d, .int .i64 k] w fun e' w' => ∃ v, e' = .returned (.tuple #[v, .int .i64 (readE d k)]) ∧ Own .u8 5 w' w.heap.size v (readB d k) ∧ Below w.heap.size w w' := by
  have hW : ∀ O1 O2 O3 O4, Below w.heap.size w ((((w.alloc O1).alloc O2).alloc O3).alloc O4) := fun O1 O2 O3 O4 => (((below_new w O1).alloc (by simp) O2).alloc (by simp; omega) O3).alloc (by simp; omega) O4
  have HW := Lib.hid hW
  have H := Lib.hid h
  clear h hW
  refine (callsIn_wide (n := 3)).1 ?_
  refine callsIn_of_wp_marks Try.func39 rfl trivial ?_ rfl
  simp only [Try.ntmps39, List.size_toArray, List.length_cons, List.length_nil, Nat.reduceAdd, Nat.reduceSub, Array.replicate_succ, Array.replicate_zero, List.push_toArray, List.append_toArray, List.nil_append, List.cons_append]
  gi_wp2
  refine ⟨trivial, (callsIn_wide.2 (alive_any p c q e d _ (H.out.below (HW.out _ _ _ _)))).mono ?_⟩
  rintro e' w2 ⟨rfl, hb2⟩
  have hs : ((((w.alloc (.cells #[.slice p d.dry.length c, .slice q d.wet.length e, .int .i64 d.fuse, .bool d.dead] 44)).alloc (.cells #[.int .i64 k] 3)).alloc (.cells #[.slice none 0 0] 22)).alloc (.cells #[.int .i64 0] 24)).heap.size = w.heap.size + 4 := by simp
  have hbb : Below w.heap.size w w2 := bel2 (HW.out _ _ _ _) hb2
  have hs2 := hb2.size
  rw [hs] at hs2
  have b3 := box_four' w [.slice p d.dry.length c, .slice q d.wet.length e, .int .i64 d.fuse, .bool d.dead] [.int .i64 k] [.slice none 0 0] [.int .i64 0] 44 3 22 24
  have B1 := Lib.hid (b3.1.below hb2)
  have B2 := Lib.hid (b3.2.1.below hb2)
  have B3 := Lib.hid (b3.2.2.1.below hb2)
  have B4 := Lib.hid (b3.2.2.2.below hb2)
  have BB := Lib.hid hbb
  have j3 := B3.out.get 0 _ rfl
  have j4 := B4.out.get 0 _ rfl
  have m3 := j3.1
  have f3 := j3.2
  have m4 := j4.1
  have f4 := j4.2
  clear b3 hbb hb2 hs j3 j4
  have retf : ∀ (W : World) (a : Act) (v0 v1 : Value), BoxOf W (w.heap.size + 2) [v0] → BoxOf W (w.heap.size + 3) [v1] → a.tmps[4]?.getD undef = .pointer (some ⟨w.heap.size + 1 + 1, 0, none⟩) → a.tmps[5]?.getD undef = .pointer (some ⟨w.heap.size + 1 + 1 + 1, 0, none⟩) → (results Try.f39 a.tmps).run Try.prog W = .ok (.tuple #[v0, v1]) W := fun W a v0 v1 h0 h1 ha hb => by
    have c0 := (h0.get 0 _ rfl).1
    have c1 := (h1.get 0 _ rfl).1
    simp [results, Try.results39, ha, hb, asAddr, run_loadVar_one c0 Try.underlying22 rfl, run_loadVar_one c1 Try.underlying24 rfl]
  have j0 := (B1.out.get 0 _ rfl).1
  have j1 := (B1.out.get 1 _ rfl).1
  have j2 := (B1.out.get 2 _ rfl).1
  have j3 := (B1.out.get 3 _ rfl).1
  have jk := (B2.out.get 0 _ rfl).1
  by_cases ha : aliveE d = 0
  · have HA := Lib.hid ha
    rw [ha]
    clear ha
    gi_wp2
    refine ⟨trivial, (callsIn_wide.2 (far_any p c q e d k _ (H.out.below BB.out))).mono ?_⟩
    rintro e' w4 ⟨rfl, hb4⟩
    have B1' := Lib.hid (B1.out.below hb4)
    have B2' := Lib.hid (B2.out.below hb4)
    have B3' := Lib.hid (B3.out.below hb4)
    have B4' := Lib.hid (B4.out.below hb4)
    have BB' := Lib.hid (bel2 BB.out hb4)
    have hs4 := hb4.size
    clear j0 j1 j2 j3 jk m3 m4 f3 f4 B1 B2 B3 B4 BB hb4
    have j0 := (B1'.out.get 0 _ rfl).1
    have j1 := (B1'.out.get 1 _ rfl).1
    have jk := (B2'.out.get 0 _ rfl).1
    have m3 := (B3'.out.get 0 _ rfl).1
    have f3 := (B3'.out.get 0 _ rfl).2
    have m4 := (B4'.out.get 0 _ rfl).1
    have f4 := (B4'.out.get 0 _ rfl).2
    cases hF : farD d k
    · have HF := Lib.hid hF
      clear hF
      gi_wp2
      refine ⟨trivial, (back_in Fence.wide 2 trivial rfl q d.wet.length e _).mono ?_⟩
      rintro e' w5 ⟨rfl, rfl⟩
      gi_wp2
      have hok : checkOK d := by
        have := HA.out
        unfold aliveE at this
        split at this
        · assumption
        · omega
      have HK := Lib.hid hok
      obtain ⟨W0, hW0⟩ : ∃ W0, W0 = w4.alloc (.cells #[.slice q d.wet.length e] 42) := ⟨_, rfl⟩
      rw [← hW0]
      have hWb : Below w4.heap.size w4 W0 := by rw [hW0]; exact below_new w4 _
      have hsz : W0.heap.size = w4.heap.size + 1 := by rw [hW0]; simp
      have hcB : W0.cell? ⟨w4.heap.size, 0, none⟩ = some (.slice q d.wet.length e) := by rw [hW0, cell_of_row _ _ _ _ _ _ (heap_alloc_new w4 _)]; rfl
      have C1 := Lib.hid (B1'.out.below hWb)
      have C2 := Lib.hid (B2'.out.below hWb)
      have C3 := Lib.hid (B3'.out.below hWb)
      have C4 := Lib.hid (B4'.out.below hWb)
      have BW := Lib.hid (bel2 BB'.out hWb)
      have hz := back_stops Fence.wide 2 trivial rfl (by decide) w4.heap.size W0.heap.size q e d.wet hok.2.2.2.1 w W0 H.out.rw (fun x hx => by have := (placed_of_ok hok x hx).2.2; omega) BW.out (by omega) (Nat.le_refl _) BW.out.size hcB
      clear hok j0 j1 jk m3 m4 f3 f4 hW0 hcB
      refine wpIn_rangeFunc_ownH (n := 3) rfl (by decide) rfl trivial (enters_of Try.func95 (by kernel_rfl) rfl) hz belowK_t (belowK_b (Nat.le_refl _)) (Below.refl _ _) (fun _ => rfl)
        (fun pre W => BoxOf W w.heap.size [.slice p d.dry.length c, .slice q d.wet.length e, .int .i64 d.fuse, .bool d.dead] ∧ BoxOf W (w.heap.size + 1) [.int .i64 k] ∧ BoxOf W (w.heap.size + 2) [.slice none 0 0] ∧ BoxOf W (w.heap.size + 3) [.int .i64 0] ∧ Below w.heap.size w W ∧ Hid (∀ x ∈ pre, x.x.pos ≠ k) ∧ W0.heap.size ≤ W.heap.size)
        (fun cd pre W => cd = .ret ∧ ∃ v b, BoxOf W (w.heap.size + 2) [v] ∧ BoxOf W (w.heap.size + 3) [.int .i64 0] ∧ Own .u8 5 W w.heap.size v b ∧ Below w.heap.size w W ∧ Hid (lastOf k (pre.map (·.x)) = some b))
        ?hI ?hIx ⟨C1.out, C2.out, C3.out, C4.out, BW.out, by simp [Hid], Nat.le_refl _⟩
        (fun x a' W => ∃ Bx, W0.heap.size ≤ Bx ∧ BoxOf W Bx [.int .i64 x.x.pos, .slice x.q x.x.b.length x.c] ∧ a' = { tmps := #[dkV p c q e d, .int .i64 k, .pointer (some ⟨w.heap.size, 0, none⟩), .pointer (some ⟨w.heap.size + 1, 0, none⟩), .pointer (some ⟨w.heap.size + 1 + 1, 0, none⟩), .pointer (some ⟨w.heap.size + 1 + 1 + 1, 0, none⟩), .int .i64 0, undef, .pointer (some ⟨Bx, 0, none⟩), .agg #[.slice p d.dry.length c, .slice q d.wet.length e, .int .i64 d.fuse, .bool d.dead], .int .i64 0, .int .i64 0, .bool false, undef, .agg #[.slice p d.dry.length c, .slice q d.wet.length e, .int .i64 d.fuse, .bool d.dead], .int .i64 k, .bool false, .pointer (some ⟨w.heap.size, 1, none⟩), .slice q d.wet.length e, .func (.func 95) #[] #[.pointer (some ⟨w4.heap.size, 0, none⟩)], .int .i64 x.i, .agg #[.int .i64 x.x.pos, .slice x.q x.x.b.length x.c], undef, undef, undef, undef, undef, undef, undef, undef, undef, undef, undef, undef], defers := [] })
        ?hAx ?assign ?body ?done ?stop
      case hI => exact fun s X Y row hs hg hr => ⟨hs.1.kept hg hr, hs.2.1.kept hg hr, hs.2.2.1.kept hg hr, hs.2.2.2.1.kept hg hr, hs.2.2.2.2.1.grown hg (by have := hs.2.2.2.2.1.size; omega) (fun r e => by have := (hr r e).1; have := BW.out.size; omega), hs.2.2.2.2.2.1, Nat.le_trans hs.2.2.2.2.2.2 hg.size⟩
      case hIx =>
        intro cd s X Y row hs hg hr
        obtain ⟨h0, v, b, g1, g2, g3, g4, g5⟩ : cd = Code.ret ∧ ∃ v b, BoxOf X (w.heap.size + 2) [v] ∧ BoxOf X (w.heap.size + 3) [.int .i64 0] ∧ Own .u8 5 X w.heap.size v b ∧ Below w.heap.size w X ∧ Hid (lastOf k (s.map (·.x)) = some b) := hs
        exact ⟨h0, v, b, g1.kept hg hr, g2.kept hg hr, ownRow_kept g3 hg hr, g4.grown hg (by have := g4.size; omega) (fun r e => by have := (hr r e).1; have := BW.out.size; omega), g5⟩
      case hAx =>
        intro x a' s X Y row hs hg hr
        obtain ⟨Bx, g1, g2, g3⟩ := hs
        exact ⟨Bx, g1, g2.kept hg hr, g3⟩
      case assign =>
        rintro l pre x W K ⟨i1, i2, i3, i4, i5, i6, i7⟩ hK
        gi_wp2
        exact hK _ _ ((KeepsOthers.alloc _ _).from _) ((Below.refl _ W).alloc (by omega) _) ⟨i1.alloc _, i2.alloc _, i3.alloc _, i4.alloc _, i5.alloc (by have := i5.size; omega) _, i6, by simp; omega⟩ ⟨W.heap.size, i7, BoxOf.new W [.int .i64 x.x.pos, .slice x.q x.x.b.length x.c] _, rfl⟩
      case body =>
        rintro l pre x a' W hl ⟨r, hr⟩ ⟨i1, i2, i3, i4, i5, i6, i7⟩ ⟨Bx, hBx, bX, rfl⟩ hlt
        have bx0 := (bX.get 0 _ rfl).1
        have bx1 := (bX.get 1 _ rfl).1
        have jk := (i2.get 0 _ rfl).1
        have m3 := (i3.get 0 _ rfl).1
        have f3 := (i3.get 0 _ rfl).2
        have m4 := (i4.get 0 _ rfl).1
        have f4 := (i4.get 0 _ rfl).2
        by_cases hx : x.x.pos = k
        · have hxk := Lib.hid hx
          have e1 : (x.x.pos == k) = true := by rw [hx]; simp
          clear hx m3 m4 f3 f4
          gi_wp2
          refine ⟨trivial, (CallsIn.inRound l (callsIn_wide.2 (clone_rd x.q x.c x.x.b _ (x.rd.below i5) x.hb))).mono ?_⟩
          rintro e' W2 ⟨v, rfl, ho, hb⟩
          obtain ⟨p', c', rfl, _⟩ := ho.rd
          have k1 := i3.below hb
          have k2 := i4.below hb
          have kb := bel2 i5 hb
          have m3 := (k1.get 0 _ rfl).1
          have f3 := (k1.get 0 _ rfl).2
          have m4 := (k2.get 0 _ rfl).1
          have f4 := (k2.get 0 _ rfl).2
          gi_wp2
          have hsW := i5.size
          refine ⟨(keepsFrom_below hb).trans (((KeepsOthers.setCell _ _ _).from _).trans ((KeepsOthers.setCell _ _ _).from _)), rfl, _, x.x.b, (k1.set 0 _).setOther _ _ (by show w.heap.size + 2 ≠ w.heap.size + 3; omega), (k2.setOther _ _ (by show w.heap.size + 3 ≠ w.heap.size + 2; omega)).set 0 _, ?_, (kb.setCell (p := ⟨w.heap.size + 1 + 1, 0, none⟩) (by show w.heap.size ≤ w.heap.size + 1 + 1; omega) _).setCell (p := ⟨w.heap.size + 1 + 1 + 1, 0, none⟩) (by show w.heap.size ≤ w.heap.size + 1 + 1 + 1; omega) _, ?_⟩
          · exact ((ho.setOther _ _ (by show w.heap.size + 1 + 1 < _; omega)).setOther _ _ (by show w.heap.size + 1 + 1 + 1 < _; omega)).base hsW
          · show lastOf k (List.map (·.x) (pre ++ [x])) = _
            rw [List.map_append]
            exact lastOf_snoc (fun y hy => by obtain ⟨z, hz, rfl⟩ := List.mem_map.1 hy; exact i6 z hz) hxk.out
        · have hxk := Lib.hid hx
          have e1 : (x.x.pos == k) = false := by simp [hx]
          clear hx
          gi_wp2
          exact ⟨KeepsFrom.refl _ _, Below.refl _ _, i1, i2, i3, i4, i5, by
            show ∀ y ∈ pre ++ [x], y.x.pos ≠ k
            intro y hy
            rcases List.mem_append.1 hy with h | h
            · exact i6 y h
            · rw [List.mem_singleton.1 h]; exact hxk.out, by omega⟩
      case done =>
        rintro D ys W hD hSs ⟨i1, i2, i3, i4, i5, i6, i7⟩ hK
        have j0 := (i1.get 0 _ rfl).1
        have jk := (i2.get 0 _ rfl).1
        have hok := HK.out
        have hf := HF.out
        have hk2 : (0 : Int) ≤ k ∧ k < ((d.dry.length / 32 : Nat) : Int) := by
          unfold farD at hf
          simp only [decide_eq_false_iff_not] at hf
          omega
        obtain ⟨kn, rfl⟩ : ∃ kn : Nat, k = kn := ⟨k.toNat, by omega⟩
        have hkn : (kn + 1) * 32 ≤ d.dry.length := by omega
        obtain ⟨b, o, rfl, hcells⟩ := H.out.rd (by omega)
        have hc1 := H.out.c1
        have hc2 := H.out.c2
        have Hc := Lib.hid hcells
        have Hok := Lib.hid hok
        clear hcells hok hf
        gi_wp2
        refine ⟨trivial, (callsIn_wide.2 (cut_any b o d.dry.length c kn _ hkn hc1 hc2)).mono ?_⟩
        rintro e' W1 ⟨rfl, rfl⟩
        have hl32 : ((d.dry.take (kn * 32 + 32)).drop (kn * 32)).length = 32 := by simp; omega
        have hcs : ∀ i, i < (d.dry.take (kn * 32 + 32)).length → w.cell? ⟨b, o + i, none⟩ = some (.int .u8 ((d.dry.take (kn * 32 + 32)).getD i 0)) := by
          intro i hi
          have h1 : i < kn * 32 + 32 := by simp at hi; omega
          rw [Hc.out i (by simp at hi; omega)]
          simp only [List.getD, List.getElem?_take_of_lt h1]
        have hcl := clone_rd (some ⟨b, o + kn * 32, none⟩) (c - kn * 32) ((d.dry.take (kn * 32 + 32)).drop (kn * 32)) W ((Rd.part hcs (kn * 32)).below i5) (by rw [hl32]; decide)
        clear hcs
        rw [hl32] at hcl
        gi_wp2
        refine ⟨trivial, (callsIn_wide.2 hcl).mono ?_⟩
        rintro e' W2 ⟨v, rfl, ho, hb⟩
        obtain ⟨p', c', rfl, _⟩ := ho.rd
        rw [hl32] at ho ⊢
        have k1 := i3.below hb
        have k2 := i4.below hb
        have kb := bel2 i5 hb
        have m3 := (k1.get 0 _ rfl).1
        have f3 := (k1.get 0 _ rfl).2
        have m4 := (k2.get 0 _ rfl).1
        have f4 := (k2.get 0 _ rfl).2
        clear hcl hl32
        have hKW : W2.heap[D]? = some (.deferred (some [])) := (hb.block D (Array.getElem?_eq_some_iff.1 hK).1).trans hK
        gi_wp2
        have hKW' : (((W2.setCell ⟨w.heap.size + 1 + 1, 0, none⟩ (.slice p' 32 c')).setCell ⟨w.heap.size + 1 + 1 + 1, 0, none⟩ (.int .i64 0))).heap[D]? = some (.deferred (some [])) := (KeepsOthers.setCell _ _ _).same D _ ((KeepsOthers.setCell _ _ _).same D _ hKW rfl) rfl
        have hsW := i5.size
        refine ⟨by simp, .inl ⟨_, _, rfl, run_takeDeferred hKW', ?_⟩⟩
        have b1 := (k1.set 0 (.slice p' 32 c')).setOther ⟨w.heap.size + 1 + 1 + 1, 0, none⟩ (.int .i64 0) (by show w.heap.size + 2 ≠ w.heap.size + 3; omega)
        have b2 := (k2.setOther ⟨w.heap.size + 1 + 1, 0, none⟩ (.slice p' 32 c') (by show w.heap.size + 3 ≠ w.heap.size + 2; omega)).set 0 (.int .i64 0)
        have b3 := ((ho.setOther (w.heap.size + 1 + 1) (.slice p' 32 c') (by omega)).setOther (w.heap.size + 1 + 1 + 1) (.int .i64 0) (by omega)).base hsW
        have b4 := (kb.setCell (p := ⟨w.heap.size + 1 + 1, 0, none⟩) (by show w.heap.size ≤ w.heap.size + 1 + 1; omega) (.slice p' 32 c')).setCell (p := ⟨w.heap.size + 1 + 1 + 1, 0, none⟩) (by show w.heap.size ≤ w.heap.size + 1 + 1 + 1; omega) (.int .i64 0)
        have hr : ∀ r, some D = some r → W0.heap.size ≤ r ∧ ∃ o : Obj, ((W2.setCell ⟨w.heap.size + 1 + 1, 0, none⟩ (.slice p' 32 c')).setCell ⟨w.heap.size + 1 + 1 + 1, 0, none⟩ (.int .i64 0)).heap[r]? = some o ∧ o.isCells = false := fun r e => by cases e; exact ⟨by omega, _, hKW', rfl⟩
        have hg := grownBy_putObj' ((W2.setCell ⟨w.heap.size + 1 + 1, 0, none⟩ (.slice p' 32 c')).setCell ⟨w.heap.size + 1 + 1 + 1, 0, none⟩ (.int .i64 0)) D (.deferred none)
        have e1 : readE d kn = 0 := by unfold readE; rw [if_neg (by rw [HA.out]; decide), if_neg (by rw [HF.out]; decide)]
        have e2 : readB d kn = (d.dry.take (kn * 32 + 32)).drop (kn * 32) := by
          unfold readB
          rw [if_neg (by rw [e1]; decide), ← hSs, lastOf_none (fun y hy => by obtain ⟨z, hz, rfl⟩ := List.mem_map.1 hy; exact i6 z hz)]
          rfl
        exact ⟨_, retf _ _ _ (.int .i64 0) (b1.kept hg hr) (b2.kept hg hr) rfl rfl, _, by rw [e1], by rw [e2]; exact ownRow_kept b3 hg hr, b4.trans (belowK_b (w := w) (Nat.le_refl _) _ D _ _ (by omega) hKW' rfl rfl)⟩
      case stop =>
        rintro D cd pre W hD hSp ⟨rfl, v, b, g1, g2, g3, g4, g5⟩ hK
        gi_wp2
        refine ⟨by simp, .inl ⟨_, _, rfl, run_takeDeferred hK, ?_⟩⟩
        have hr : ∀ r, some D = some r → W0.heap.size ≤ r ∧ ∃ o : Obj, W.heap[r]? = some o ∧ o.isCells = false := fun r e => by cases e; exact ⟨by omega, _, hK, rfl⟩
        have hg := grownBy_putObj' W D (.deferred none)
        have e1 : readE d k = 0 := by unfold readE; rw [if_neg (by rw [HA.out]; decide), if_neg (by rw [HF.out]; decide)]
        have e2 : readB d k = b := by
          obtain ⟨t, ht⟩ := hSp
          unfold readB
          rw [if_neg (by rw [e1]; decide), ← ht, lastOf_prefix g5.out]
          rfl
        exact ⟨_, retf _ _ v (.int .i64 0) (g1.kept hg hr) (g2.kept hg hr) rfl rfl, _, by rw [e1], by rw [e2]; exact ownRow_kept g3 hg hr, g4.trans (belowK_b (w := w) (Nat.le_refl _) W D _ _ (by omega) hK rfl rfl)⟩
    · have e1 : readE d k = 5 := by unfold readE; rw [if_neg (by rw [HA.out]; decide), if_pos hF]
      have e2 : readB d k = [] := by unfold readB; rw [if_pos (by rw [e1]; decide)]
      have E1 := Lib.hid e1
      have E2 := Lib.hid e2
      clear hF e1 e2
      gi_wp2
      exact ⟨_, retf _ _ (.slice none 0 0) (.int .i64 5) ((B3'.out.set 0 _).setOther _ _ (by show w.heap.size + 2 ≠ w.heap.size + 3; omega)) ((B4'.out.setOther _ _ (by show w.heap.size + 3 ≠ w.heap.size + 2; omega)).set 0 _) rfl rfl, _, by rw [E1.out], by rw [E2.out]; exact Own.nil _ _ _ _, (BB'.out.setCell (p := ⟨w.heap.size + 1 + 1, 0, none⟩) (by show w.heap.size ≤ w.heap.size + 1 + 1; omega) _).setCell (p := ⟨w.heap.size + 1 + 1 + 1, 0, none⟩) (by show w.heap.size ≤ w.heap.size + 1 + 1 + 1; omega) _⟩
  · have ha' : (aliveE d != 0) = true := by rw [bne_iff_ne]; exact ha
    have e1 : readE d k = aliveE d := if_pos ha
    have e2 : readB d k = [] := by unfold readB; rw [if_pos (by rw [e1]; exact ha)]
    have E1 := Lib.hid e1
    have E2 := Lib.hid e2
    generalize aliveE d = A at *
    clear e1 e2 ha
    gi_wp2
    exact ⟨_, retf _ _ (.slice none 0 0) (.int .i64 A) ((B3.out.set 0 _).setOther _ _ (by show w.heap.size + 2 ≠ w.heap.size + 3; omega)) ((B4.out.setOther _ _ (by show w.heap.size + 3 ≠ w.heap.size + 2; omega)).set 0 _) rfl rfl, _, by rw [E1.out], by rw [E2.out]; exact Own.nil _ _ _ _, (BB.out.setCell (p := ⟨w.heap.size + 1 + 1, 0, none⟩) (by show w.heap.size ≤ w.heap.size + 1 + 1; omega) _).setCell (p := ⟨w.heap.size + 1 + 1 + 1, 0, none⟩) (by show w.heap.size ≤ w.heap.size + 1 + 1 + 1; omega) _⟩
end Go.Proofs.Ytnmgiiaejpaeeaa
/- Contracts over the state of a walk: disk.Read, disk.Lit, the reference's New and SameBytes. -/
namespace Go.Proofs.Ytnmgiiaejpaeeaa
set_option linter.unusedVariables false
set_option linter.unusedSimpArgs false
open Go.RowKit Go.Shelf
theorem readB_inK {d : Dk} (h : (∀ x ∈ d.dry, InK .u8 x) ∧ ∀ y ∈ d.wet, ∀ x ∈ y.b, InK .u8 x) (k : Int) : ∀ x ∈ readB d k, InK .u8 x := by
  intro x hx
  unfold readB at hx
  split at hx
  · simp at hx
  · cases hl : lastOf k d.wet.reverse with
    | none => rw [hl] at hx; exact h.1 x (List.mem_of_mem_take (List.mem_of_mem_drop hx))
    | some b =>
      rw [hl] at hx
      obtain ⟨y, hy, rfl⟩ := lastOf_mem hl
      exact h.2 y (by simpa using hy) x hx
theorem readB_length {d : Dk} (h : d.dry.length ≤ 140737488355328) (h2 : ∀ y ∈ d.wet, y.b.length ≤ 140737488355328) (k : Int) : (readB d k).length ≤ 140737488355328 := by
  unfold readB
  split
  · simp
  · cases hl : lastOf k d.wet.reverse with
    | none => simp; omega
    | some b =>
      obtain ⟨y, hy, rfl⟩ := lastOf_mem hl
      exact h2 y (by simpa using hy)
theorem wet_len {m : Mem} {p : Option Addr} {ws : List Wr} (h : Row wrL m p ws) : ∀ y ∈ ws, y.b.length ≤ 140737488355328 := fun y hy => by
  obtain ⟨i, hi, rfl⟩ := List.getElem_of_mem hy
  obtain ⟨b, o, cs, _, h1, _⟩ := h.get i hi
  obtain ⟨v, rfl, _, hv⟩ := wrL_open h1
  obtain ⟨q, c, _, _, _, k3, _⟩ := Lay.list_open hv
  simpa [Lay.int, kBytes] using k3
theorem read_c (m : Mem) (w : World) (hm : m.In w) (cs : List Value) (d : Dk) (h : dkL.rd m cs d) (k : Int) :
    Calls Try.prog 39 #[.agg cs.toArray, .int .i64 k] w (RetBE w m (readB d k) (readE d k)) := by
  have ho := octets_of h
  obtain ⟨v0, v1, _, h0, h1, _⟩ := dkL_open h
  obtain ⟨_, _, _, _, _, a3, _⟩ := Lay.list_open h0
  obtain ⟨_, _, _, _, _, _, b4⟩ := Lay.list_open h1
  obtain ⟨p, c, q, e, he, hd⟩ := dkL_at h hm
  rw [he]
  refine (read_any p c q e d k w hd).mono ?_
  rintro e' w' ⟨v, rfl, hr, hb⟩
  have hS := (St.start hm).add (.row 5 1 v (readB d k).length ((readB d k).map (.int .u8))) (grownBy_of_below hb) (Own.base (b' := 0) hr (Nat.zero_le _)) (fun bl hbl => by
    rcases hr.2 with ⟨rfl, _⟩ | ⟨g, cap, cur, rfl, hg, _⟩
    · cases hbl
    · cases hbl; exact hg)
  exact bclose_own rfl rfl hS (readB_inK ho k) (readB_length (by simpa [Lay.int, kBytes] using a3) (wet_len b4) k)
set_option maxRecDepth 100000 in
set_option maxHeartbeats 4000000 in
theorem lit_c (m : Mem) (w : World) (hm : m.In w) (cs : List Value) (d : Dk) (h : dkL.rd m cs d) (f : Int) :
    Calls Try.prog 46 #[.agg cs.toArray, .int .i64 f] w (RetDE w m (litD d f) (litE d f)) := by
  have hh := h
  obtain ⟨v0, v1, rfl, h0, h1, _⟩ := dkL_open h
  obtain ⟨p0, c0, rfl, a1, a2, _, a4⟩ := Lay.list_open h0
  obtain ⟨p1, c1, rfl, b1, b2, b3, b4⟩ := Lay.list_open h1
  have hS := St.start hm
  have HH := Lib.hid hh
  have HR := Lib.hid a4.inK
  clear h h0 h1 b3 hh a1 a2 a4 b1 b2 b4
  cases hdd : d.dead
  all_goals
    rw [hdd] at HH
    have HD := Lib.hid hdd
    clear hdd
    rcases checkE_cases d with ⟨hE, hok⟩ | ⟨hE, hok⟩
    all_goals
      have HK := Lib.hid hok
      have HA := Lib.hid (show aliveE d = _ by first | exact (alive_of HD.out).1 hok | exact (alive_of HD.out).2 hok)
      clear hE hok
      go_enter Try.func46, Try.ntmps46
      go_wp2_with (first 
    | ((with_reducible apply l_box (ty := 44) (y := (.tmp 0)) hS); (· (first | (go_simp; done) | (go_simp; with_reducible rfl))); (· exact rfl); clear hS; intro w2 b2 hS)
    | ((with_reducible apply l_alloc (ty := 44) (dst := some 4) hS (.agg #[.slice none 0 0, .slice none 0 0, .int .i64 0, .bool false]) [.slice none 0 0, .slice none 0 0, .int .i64 0, .bool false]); (· kernel_rfl); (· rfl); clear hS; intro w4 b4 hS)
    | ((with_reducible apply l_loads hS); (· (first | exact rowT44)); (· exact rfl); (· (first | (apply Finds.box; (· (repeat constructor)); (· (repeat constructor)); done) | (refine Finds.mem2 (by assumption) ?_; first | rfl | assumption | (simp; done)) | (apply Finds.row; (· (repeat constructor)); (· assumption); (· rfl)))))
    | ((with_reducible apply g_loads hS); (· (first | exact rowT44)); (· (first | rfl | (go_simp; done))); (· exact rfl); (· (first | (apply Finds.box; (· (repeat constructor)); (· (repeat constructor)); done) | (refine Finds.mem2 (by assumption) ?_; first | rfl | assumption | (simp; done)) | (apply Finds.row; (· (repeat constructor)); (· assumption); (· rfl)))))
    | ((with_reducible apply l_store hS); (· (first | exact rowT3)); (· exact rfl); (· (first | (go_simp; done) | (go_simp; with_reducible rfl))); (· (first | rfl | assumption | (simp [Value.oneCell']; done))); (· (repeat constructor)); (· (repeat constructor)); (· (repeat constructor)); clear hS; intro ws hS)
    | ((with_reducible apply l_storeR hS); (· (first | exact rowT3)); (· exact rfl); (· (first | (go_simp; done) | (go_simp; with_reducible rfl))); (· (first | rfl | assumption | (simp [Value.oneCell']; done))); (· (repeat constructor)); (· (first | assumption | omega | (simp; omega))); clear hS; intro ws hS)
    | ((with_reducible apply l_stores hS); (· (first | exact rowT44)); (· exact rfl); (· exact rfl); (· exact rfl); (· (first | assumption | (simp [Value.oneCell']; done))); (· (repeat constructor)); (· (repeat constructor)); (· (repeat constructor)); clear hS; intro ws hS)
        | (go_at_call 69; refine (alive_c _ _ hS.inw _ _ HH.out).mono ?_; rintro e' w5 ⟨v5, m5, rfl, rfl, hk⟩; rw [HA.out]; simp only [if_true, Bool.false_eq_true, if_false]; replace hS := hS.call hk; have hle := hk.le; clear hk)
        | (go_at_call 77; refine (own_c _ _ hS.inw _ _ (dkL.mono hle HH.out)).mono ?_; rintro e' w6 ⟨vd, vq, cells, m6, rfl, hc, hk⟩; rw [HD.out]; replace hS := hS.callOwn hk; simp only [List.cons_append, List.nil_append] at hS; obtain ⟨qd, cd, rfl⟩ := row_form (hS.row 0 rfl); obtain ⟨qq, cq, rfl⟩ := row_form (hS.row 1 rfl); have HC := Lib.hid hc; clear hc hk))
      all_goals
        refine ret_cell_tmp (n := 4) rfl rfl hS (by (repeat constructor)) (by rfl) dkRow rfl ?_
        have A := HA.out
        (try simp only [if_true, Bool.false_eq_true, if_false] at A)
        first
        | (have E : litE d f = 1 := by (unfold litE; rw [A]; first | rw [if_pos (by omega)] | rw [if_neg (by omega)])
           exact close_err E (by unfold litD; rw [E]; rfl) hS)
        | (have E : litE d f = 11 := by (unfold litE; rw [A]; first | rw [if_pos (by omega)] | rw [if_neg (by omega)])
           exact close_err E (by unfold litD; rw [E]; rfl) hS)
        | (have E : litE d f = 0 := by (unfold litE; rw [A]; first | rw [if_pos (by omega)] | rw [if_neg (by omega)])
           have D : litD d f = { d with fuse := f } := by unfold litD; rw [if_pos E]
           rw [D]
           exact close_own E rfl HD.out (inK64 (by omega) (by omega)) hS HR.out HC.out (ok_big HK.out).1 (ok_big HK.out).2)
set_option maxRecDepth 100000 in
set_option maxHeartbeats 4000000 in
theorem rnew_c (m : Mem) (w : World) (hm : m.In w) (n : Int) : Calls Try.prog 50 #[.int .i64 n] w (RetDE w m (newD n) (newE n)) := by
  have hS := St.start hm
  by_cases h : 1 ≤ n ∧ n ≤ 8192
  · obtain ⟨k, rfl⟩ : ∃ k : Nat, n = k := ⟨n.toNat, by omega⟩
    obtain ⟨h1, h2⟩ := h
    have H1 := Lib.hid (by omega : 1 ≤ k)
    have H2 := Lib.hid (by omega : k ≤ 8192)
    have E := Lib.hid (show newE k = 0 from if_neg (by omega))
    have D := Lib.hid (show newD k = ⟨List.replicate (k * 32) 0, [], -1, false⟩ from by unfold newD; rw [if_neg (by omega)]; simp)
    have hk := H2.out
    go_enter Try.func50, Try.ntmps50
    go_wp2_with (first
    | ((with_reducible apply l_alloc (ty := 44) (dst := some 2) hS (.agg #[.slice none 0 0, .slice none 0 0, .int .i64 0, .bool false]) [.slice none 0 0, .slice none 0 0, .int .i64 0, .bool false]); (· kernel_rfl); (· rfl); clear hS; intro w2 b2 hS)
    | ((with_reducible apply l_stores hS); (· (first | exact rowT44)); (· exact rfl); (· exact rfl); (· exact rfl); (· (first | assumption | (simp [Value.oneCell']; done))); (· (repeat constructor)); (· (repeat constructor)); (· (repeat constructor)); clear hS; intro ws hS)
      | ((with_reducible apply l_make el_u8 (k * 32) hS); (· exact rfl); (· exact rfl); (· omega); (· omega); (· omega); (· omega); (· simp only [maxLen]; omega); clear hS; intro w13 b13 hS; simp only [made_u8] at hS))
    refine ret_cell_tmp (n := 4) rfl rfl hS (by (repeat constructor)) (by rfl) dkRow rfl ?_
    rw [D.out]
    exact close_half E.out rfl rfl (inK64 (by omega) (by omega)) (by simp only [List.length_replicate]; exact hS) (fun x hx => by rw [(List.mem_replicate.1 hx).2]; simp [InK, IntKind.min, IntKind.max, IntKind.signed, IntKind.bits]) (Lay.nil_rd _ _) (by simp; omega)
  · have h' : n < 1 ∨ 8192 < n := by omega
    have E := Lib.hid (show newE n = 1 from if_pos h')
    have D := Lib.hid (show newD n = dk0 from if_pos h')
    rcases h' with h1 | h1
    all_goals
      clear h
      go_enter Try.func50, Try.ntmps50
      go_wp2_with (first
    | ((with_reducible apply l_alloc (ty := 44) (dst := some 2) hS (.agg #[.slice none 0 0, .slice none 0 0, .int .i64 0, .bool false]) [.slice none 0 0, .slice none 0 0, .int .i64 0, .bool false]); (· kernel_rfl); (· rfl); clear hS; intro w2 b2 hS)
    | ((with_reducible apply l_stores hS); (· (first | exact rowT44)); (· exact rfl); (· exact rfl); (· exact rfl); (· (first | assumption | (simp [Value.oneCell']; done))); (· (repeat constructor)); (· (repeat constructor)); (· (repeat constructor)); clear hS; intro ws hS))
      refine ret_cell_tmp (n := 4) rfl rfl hS (by (repeat constructor)) (by rfl) dkRow rfl ?_
      exact close_err E.out D.out hS
theorem same_c (m : Mem) (w : World) (hm : m.In w) (va vb : Value) (xs ys : List Int) (ha : bytesL.rd m [va] xs) (hb : bytesL.rd m [vb] ys) :
    Calls Try.prog 32 #[va, vb] w fun e w' => e = .returned (.bool (decide (xs = ys))) ∧ w = w' := by
  obtain ⟨p0, c0, rfl, a1, a2, _, a4⟩ := Lay.list_open ha
  obtain ⟨p1, c1, rfl, b1, b2, b3, b4⟩ := Lay.list_open hb
  exact same_any _ _ _ _ _ _ w (a4.rdInt hm) (b4.rdInt hm) (inK_isB a4.inK) (inK_isB b4.inK)
end Go.Proofs.Ytnmgiiaejpaeeaa
/- Contract over the state of a walk: the reference's Same. -/
namespace Go.Proofs.Ytnmgiiaejpaeeaa
set_option linter.unusedVariables false
set_option linter.unusedSimpArgs false
open Go.RowKit Go.Shelf
theorem ifYes {c A B : Prop} [Decidable c] (h : c) (ha : A) : if c then A else B := by rw [if_pos h]; exact ha
theorem ifNo {c A B : Prop} [Decidable c] (h : ¬ c) (hb : B) : if c then A else B := by rw [if_neg h]; exact hb
deriving instance DecidableEq for Wr
deriving instance DecidableEq for Dk
def sameD (d e : Dk) : Bool := decide (d = e)
theorem sameD_true {d e : Dk} (h1 : d.dry = e.dry) (h2 : d.wet = e.wet) (h3 : d.fuse = e.fuse) (h4 : d.dead = e.dead) : sameD d e = true := by
  cases d; cases e; simp_all [sameD]
theorem sameD_no {d e : Dk} (h : d ≠ e) : sameD d e = false := decide_eq_false h
set_option maxRecDepth 100000 in
set_option maxHeartbeats 4000000 in
theorem rsame_c (m : Mem) (w : World) (hm : m.In w) (cs ds : List Value) (d e : Dk) (h : dkL.rd m cs d) (h' : dkL.rd m ds e) :
    Calls Try.prog 49 #[.agg cs.toArray, .agg ds.toArray] w (Ret w m fun v _ => v = .bool (sameD d e)) := by
  obtain ⟨v0, v1, rfl, h0, h1, _⟩ := dkL_open h
  obtain ⟨v2, v3, rfl, h2, h3, _⟩ := dkL_open h'
  have H0 := Lib.hid h0
  have H2 := Lib.hid h2
  obtain ⟨p0, c0, rfl, _⟩ := Lay.list_open h0
  obtain ⟨p1, c1, rfl, a1, a2, a3, a4⟩ := Lay.list_open h1
  obtain ⟨p2, c2, rfl, _⟩ := Lay.list_open h2
  obtain ⟨p3, c3, rfl, b1, b2, b3, b4⟩ := Lay.list_open h3
  have A4 := Lib.hid a4
  have B4 := Lib.hid b4
  simp only [maxLen] at a2 b2
  have hS := St.start hm
  clear h h' h0 h1 h2 h3 a3 a4 b3 b4
  by_cases q1 : d.dry = e.dry
  case neg =>
    have D := Lib.hid (sameD_no (fun h : d = e => q1 (by rw [h])))
    have Q1 := Lib.hid (decide_eq_false q1)
    clear q1
    go_enter Try.func49, Try.ntmps49
    go_wp2_with (first 
    | ((with_reducible apply l_box (ty := 44) (y := (.tmp 0)) hS); (· (first | (go_simp; done) | (go_simp; with_reducible rfl))); (· exact rfl); clear hS; intro w2 b2 hS)
    | ((with_reducible apply l_box (ty := 44) (y := (.tmp 1)) hS); (· (first | (go_simp; done) | (go_simp; with_reducible rfl))); (· exact rfl); clear hS; intro w3 b3 hS)
    | ((with_reducible apply l_load hS); (· (first | exact Try.underlying3 | exact Try.underlying4 | exact Try.underlying22 | exact Try.underlying42)); (· exact rfl); (· exact rfl); (· (first | (apply Find.box; (· (repeat constructor)); rfl) | exact Find.mem (by assumption) | (apply Find.row; (· (repeat constructor)); assumption))))
    | ((with_reducible apply g_load hS); (· (first | exact Try.underlying3 | exact Try.underlying4 | exact Try.underlying22 | exact Try.underlying42)); (· exact rfl); (· (first | rfl | (go_simp; done))); (· exact rfl); (· (first | (apply Find.box; (· (repeat constructor)); rfl) | exact Find.mem (by assumption) | (apply Find.row; (· (repeat constructor)); assumption))))
      | (go_at_call 32; refine (same_c _ _ hS.inw _ _ _ _ H0.out H2.out).mono ?_; rintro e' w10 ⟨rfl, rfl⟩; rw [Q1.out]))
    go_ret
    exact ⟨_, m, rfl, by rw [D.out] <;> rfl, hS.done⟩
  have Q1 := Lib.hid (decide_eq_true q1)
  have QQ1 := Lib.hid q1
  clear q1
  by_cases q2 : d.wet.length = e.wet.length
  case neg =>
    have D := Lib.hid (sameD_no (fun h : d = e => q2 (by rw [h])))
    have Q2 : ((d.wet.length : Int) != (e.wet.length : Int)) = true := by rw [bne_iff_ne]; omega
    clear q2
    go_enter Try.func49, Try.ntmps49
    go_wp2_with (first 
    | ((with_reducible apply l_box (ty := 44) (y := (.tmp 0)) hS); (· (first | (go_simp; done) | (go_simp; with_reducible rfl))); (· exact rfl); clear hS; intro w2 b2 hS)
    | ((with_reducible apply l_box (ty := 44) (y := (.tmp 1)) hS); (· (first | (go_simp; done) | (go_simp; with_reducible rfl))); (· exact rfl); clear hS; intro w3 b3 hS)
    | ((with_reducible apply l_load hS); (· (first | exact Try.underlying3 | exact Try.underlying4 | exact Try.underlying22 | exact Try.underlying42)); (· exact rfl); (· exact rfl); (· (first | (apply Find.box; (· (repeat constructor)); rfl) | exact Find.mem (by assumption) | (apply Find.row; (· (repeat constructor)); assumption))))
    | ((with_reducible apply g_load hS); (· (first | exact Try.underlying3 | exact Try.underlying4 | exact Try.underlying22 | exact Try.underlying42)); (· exact rfl); (· (first | rfl | (go_simp; done))); (· exact rfl); (· (first | (apply Find.box; (· (repeat constructor)); rfl) | exact Find.mem (by assumption) | (apply Find.row; (· (repeat constructor)); assumption))))
      | (go_at_call 32; refine (same_c _ _ hS.inw _ _ _ _ H0.out H2.out).mono ?_; rintro e' w10 ⟨rfl, rfl⟩; rw [Q1.out]))
    go_ret
    exact ⟨_, m, rfl, by rw [D.out] <;> rfl, hS.done⟩
  by_cases q3 : d.fuse = e.fuse
  case neg =>
    have D := Lib.hid (sameD_no (fun h : d = e => q3 (by rw [h])))
    have Q3 : (d.fuse != e.fuse) = true := by rw [bne_iff_ne]; exact q3
    rw [← q2]
    clear q2 q3
    go_enter Try.func49, Try.ntmps49
    go_wp2_with (first 
    | ((with_reducible apply l_box (ty := 44) (y := (.tmp 0)) hS); (· (first | (go_simp; done) | (go_simp; with_reducible rfl))); (· exact rfl); clear hS; intro w2 b2 hS)
    | ((with_reducible apply l_box (ty := 44) (y := (.tmp 1)) hS); (· (first | (go_simp; done) | (go_simp; with_reducible rfl))); (· exact rfl); clear hS; intro w3 b3 hS)
    | ((with_reducible apply l_load hS); (· (first | exact Try.underlying3 | exact Try.underlying4 | exact Try.underlying22 | exact Try.underlying42)); (· exact rfl); (· exact rfl); (· (first | (apply Find.box; (· (repeat constructor)); rfl) | exact Find.mem (by assumption) | (apply Find.row; (· (repeat constructor)); assumption))))
    | ((with_reducible apply g_load hS); (· (first | exact Try.underlying3 | exact Try.underlying4 | exact Try.underlying22 | exact Try.underlying42)); (· exact rfl); (· (first | rfl | (go_simp; done))); (· exact rfl); (· (first | (apply Find.box; (· (repeat constructor)); rfl) | exact Find.mem (by assumption) | (apply Find.row; (· (repeat constructor)); assumption))))
      | (go_at_call 32; refine (same_c _ _ hS.inw _ _ _ _ H0.out H2.out).mono ?_; rintro e' w10 ⟨rfl, rfl⟩; rw [Q1.out]))
    go_ret
    exact ⟨_, m, rfl, by rw [D.out] <;> rfl, hS.done⟩
  have QQ3 := Lib.hid q3
  by_cases q4 : d.dead = e.dead
  case neg =>
    have D := Lib.hid (sameD_no (fun h : d = e => q4 (by rw [h])))
    have hq : (d.dead = true ∧ e.dead = false) ∨ (d.dead = false ∧ e.dead = true) := by
      cases hd : d.dead <;> cases he : e.dead <;> simp_all
    rw [← q2, ← q3]
    clear q2 q3 q4
    rcases hq with ⟨h1, h2⟩ | ⟨h1, h2⟩
    all_goals
      rw [h1, h2]
      clear h1 h2
      go_enter Try.func49, Try.ntmps49
      go_wp2_with (first 
    | ((with_reducible apply l_box (ty := 44) (y := (.tmp 0)) hS); (· (first | (go_simp; done) | (go_simp; with_reducible rfl))); (· exact rfl); clear hS; intro w2 b2 hS)
    | ((with_reducible apply l_box (ty := 44) (y := (.tmp 1)) hS); (· (first | (go_simp; done) | (go_simp; with_reducible rfl))); (· exact rfl); clear hS; intro w3 b3 hS)
    | ((with_reducible apply l_load hS); (· (first | exact Try.underlying3 | exact Try.underlying4 | exact Try.underlying22 | exact Try.underlying42)); (· exact rfl); (· exact rfl); (· (first | (apply Find.box; (· (repeat constructor)); rfl) | exact Find.mem (by assumption) | (apply Find.row; (· (repeat constructor)); assumption))))
    | ((with_reducible apply g_load hS); (· (first | exact Try.underlying3 | exact Try.underlying4 | exact Try.underlying22 | exact Try.underlying42)); (· exact rfl); (· (first | rfl | (go_simp; done))); (· exact rfl); (· (first | (apply Find.box; (· (repeat constructor)); rfl) | exact Find.mem (by assumption) | (apply Find.row; (· (repeat constructor)); assumption))))
        | (go_at_call 32; refine (same_c _ _ hS.inw _ _ _ _ H0.out H2.out).mono ?_; rintro e' w10 ⟨rfl, rfl⟩; rw [Q1.out]))
      go_ret
      exact ⟨_, m, rfl, by rw [D.out] <;> rfl, hS.done⟩
  have QQ4 := Lib.hid q4
  have QQ2 := Lib.hid q2
  rw [← q2, ← q3, ← q4]
  rw [← q2] at b1
  clear q2 q3 q4
  go_enter Try.func49, Try.ntmps49
  go_wp2_with (first 
    | ((with_reducible apply l_box (ty := 44) (y := (.tmp 0)) hS); (· (first | (go_simp; done) | (go_simp; with_reducible rfl))); (· exact rfl); clear hS; intro w2 b2 hS)
    | ((with_reducible apply l_box (ty := 44) (y := (.tmp 1)) hS); (· (first | (go_simp; done) | (go_simp; with_reducible rfl))); (· exact rfl); clear hS; intro w3 b3 hS)
    | ((with_reducible apply l_load hS); (· (first | exact Try.underlying3 | exact Try.underlying4 | exact Try.underlying22 | exact Try.underlying42)); (· exact rfl); (· exact rfl); (· (first | (apply Find.box; (· (repeat constructor)); rfl) | exact Find.mem (by assumption) | (apply Find.row; (· (repeat constructor)); assumption))))
    | ((with_reducible apply g_load hS); (· (first | exact Try.underlying3 | exact Try.underlying4 | exact Try.underlying22 | exact Try.underlying42)); (· exact rfl); (· (first | rfl | (go_simp; done))); (· exact rfl); (· (first | (apply Find.box; (· (repeat constructor)); rfl) | exact Find.mem (by assumption) | (apply Find.row; (· (repeat constructor)); assumption))))
    | (go_at_call 32; refine (same_c _ _ hS.inw _ _ _ _ H0.out H2.out).mono ?_; rintro e' w10 ⟨rfl, rfl⟩; rw [Q1.out]))
  go_loopw [38] (fun i wr => ∃ k : Nat, k ≤ d.wet.length ∧ i = .int .i64 k ∧ Hid (d.wet.take k = e.wet.take k) ∧ St [] w m wr [.box b3 [.slice p2 e.dry.length c2, .slice p3 d.wet.length c3, .int .i64 d.fuse, .bool d.dead], .box b2 [.slice p0 d.dry.length c0, .slice p1 d.wet.length c1, .int .i64 d.fuse, .bool d.dead]] m) (fun i _ => d.wet.length - (intOf i).toNat)
  case atStart => exact ⟨0, Nat.zero_le _, rfl, by simp [Hid], hS⟩
  case round =>
    clear hS
    obtain ⟨k, hk, rfl, hall, hS⟩ := hrel
    by_cases hlt : k < d.wet.length
    · have hlt' : k < e.wet.length := by rw [← QQ2.out]; exact hlt
      obtain ⟨b, o, cs, rfl, hx, hg⟩ := A4.out.get k hlt
      obtain ⟨v, rfl, _, hv⟩ := wrL_open hx
      have HV := Lib.hid hv
      obtain ⟨q, c, rfl, x1, x2, x3, x4⟩ := Lay.list_open hv
      obtain ⟨bb, oo, cs', rfl, hx', hgg⟩ := B4.out.get k hlt'
      obtain ⟨v', rfl, _, hv'⟩ := wrL_open hx'
      have HV' := Lib.hid hv'
      obtain ⟨q', c', rfl, y1, y2, y3, y4⟩ := Lay.list_open hv'
      have g1 : m ⟨b, o + k * 2, none⟩ = some (.int .i64 d.wet[k].pos) := hg 0 _ rfl
      have g2 : m ⟨b, o + k * 2 + 1, none⟩ = some (.slice q d.wet[k].b.length c) := hg 1 _ rfl
      have g3 : m ⟨bb, oo + k * 2, none⟩ = some (.int .i64 e.wet[k].pos) := hgg 0 _ rfl
      have g4 : m ⟨bb, oo + k * 2 + 1, none⟩ = some (.slice q' e.wet[k].b.length c') := hgg 1 _ rfl
      clear hg hgg hx hx' hv hv' x1 x2 x3 x4 y1 y2 y3 y4
      by_cases r1 : d.wet[k].pos = e.wet[k].pos
      · have R1 : (d.wet[k].pos != e.wet[k].pos) = false := by rw [bne_eq_false_iff_eq]; exact r1
        by_cases r2 : d.wet[k].b = e.wet[k].b
        · have R2 := Lib.hid (decide_eq_true r2)
          have HT : Hid (d.wet.take (k + 1) = e.wet.take (k + 1)) := by
            show _ = _
            rw [List.take_succ_eq_append_getElem hlt, List.take_succ_eq_append_getElem hlt', hall.out]
            congr 2
            cases hx : d.wet[k]; cases hy : e.wet[k]; rw [hx, hy] at r1 r2; simp_all
          clear r1 r2 hall
          go_wp2_with (first 
    | ((with_reducible apply l_box (ty := 44) (y := (.tmp 0)) hS); (· (first | (go_simp; done) | (go_simp; with_reducible rfl))); (· exact rfl); clear hS; intro w2 b2 hS)
    | ((with_reducible apply l_box (ty := 44) (y := (.tmp 1)) hS); (· (first | (go_simp; done) | (go_simp; with_reducible rfl))); (· exact rfl); clear hS; intro w3 b3 hS)
    | ((with_reducible apply l_load hS); (· (first | exact Try.underlying3 | exact Try.underlying4 | exact Try.underlying22 | exact Try.underlying42)); (· exact rfl); (· exact rfl); (· (first | (apply Find.box; (· (repeat constructor)); rfl) | exact Find.mem (by assumption) | (apply Find.row; (· (repeat constructor)); assumption))))
    | ((with_reducible apply g_load hS); (· (first | exact Try.underlying3 | exact Try.underlying4 | exact Try.underlying22 | exact Try.underlying42)); (· exact rfl); (· (first | rfl | (go_simp; done))); (· exact rfl); (· (first | (apply Find.box; (· (repeat constructor)); rfl) | exact Find.mem (by assumption) | (apply Find.row; (· (repeat constructor)); assumption)))))
          replace hS := hS.drew
          refine startL (S := Sx _ [(b2, _), (b3, _)]) (by kernel_rfl) ((hS.sx0.cons hS (by (repeat constructor))).cons hS (by (repeat constructor))) (fun _ _ _ _ => trivial) (fun hHeld => ?_)
          focus (refine takeN 0 (v := ?_) rfl (by kernel_rfl) ?_ ?_; rotate_left; focus (intro w hSw; clear hSw; go_simp; try with_reducible rfl))
          try simp only [Act.put, nz1, nz2, nz3]
          refine takeN 1 rfl (by kernel_rfl) (yield_load rfl Try.underlying42 rfl rfl (by (first | (apply FindX.box; (· (repeat constructor)); rfl) | exact FindX.mem (by assumption)))) ?_
          try simp only [Act.put, nz1, nz2, nz3]
          focus (refine takeN 2 (v := ?_) rfl (by kernel_rfl) ?_ ?_; rotate_left; focus (intro w hSw; clear hSw; go_simp; try with_reducible rfl))
          try simp only [Act.put, nz1, nz2, nz3]
          focus (refine takeN 3 (v := ?_) rfl (by kernel_rfl) ?_ ?_; rotate_left; focus (intro w hSw; clear hSw; go_simp; try with_reducible rfl))
          try simp only [Act.put, nz1, nz2, nz3]
          focus (refine takeN 4 (v := ?_) rfl (by kernel_rfl) ?_ ?_; rotate_left; focus (intro w hSw; clear hSw; go_simp; try with_reducible rfl))
          try simp only [Act.put, nz1, nz2, nz3]
          refine takeN 5 rfl (by kernel_rfl) (yield_load rfl Try.underlying3 rfl rfl (by (first | (apply FindX.box; (· (repeat constructor)); rfl) | exact FindX.mem (by assumption)))) ?_
          try simp only [Act.put, nz1, nz2, nz3]
          focus (refine takeN 6 (v := ?_) rfl (by kernel_rfl) ?_ ?_; rotate_left; focus (intro w hSw; clear hSw; go_simp; try with_reducible rfl))
          try simp only [Act.put, nz1, nz2, nz3]
          refine takeN 7 rfl (by kernel_rfl) (yield_load rfl Try.underlying42 rfl rfl (by (first | (apply FindX.box; (· (repeat constructor)); rfl) | exact FindX.mem (by assumption)))) ?_
          try simp only [Act.put, nz1, nz2, nz3]
          focus (refine takeN 8 (v := ?_) rfl (by kernel_rfl) ?_ ?_; rotate_left; focus (intro w hSw; clear hSw; go_simp; try with_reducible rfl))
          try simp only [Act.put, nz1, nz2, nz3]
          focus (refine takeN 9 (v := ?_) rfl (by kernel_rfl) ?_ ?_; rotate_left; focus (intro w hSw; clear hSw; go_simp; try with_reducible rfl))
          try simp only [Act.put, nz1, nz2, nz3]
          focus (refine takeN 10 (v := ?_) rfl (by kernel_rfl) ?_ ?_; rotate_left; focus (intro w hSw; clear hSw; go_simp; try with_reducible rfl))
          try simp only [Act.put, nz1, nz2, nz3]
          refine takeN 11 rfl (by kernel_rfl) (yield_load rfl Try.underlying3 rfl rfl (by (first | (apply FindX.box; (· (repeat constructor)); rfl) | exact FindX.mem (by assumption)))) ?_
          try simp only [Act.put, nz1, nz2, nz3]
          focus (refine takeN 12 (v := ?_) rfl (by kernel_rfl) ?_ ?_; rotate_left; focus (intro w hSw; clear hSw; go_simp; try with_reducible rfl))
          try simp only [Act.put, nz1, nz2, nz3]
          focus (refine takeN 13 (v := ?_) rfl (by kernel_rfl) ?_ ?_; rotate_left; focus (intro w hSw; clear hSw; go_simp; try with_reducible rfl))
          try simp only [Act.put, nz1, nz2, nz3]
          first | (focus (refine takeG 14 (v := ?_) rfl (by kernel_rfl) ?_ ?_ ?_; rotate_left; (focus (first | rfl | (go_simp <;> fail))); (focus (intro w hSw; clear hSw; go_simp; try with_reducible rfl)))) | (refine skipG 14 rfl (by kernel_rfl) ?_ ?_; (focus (first | rfl | (go_simp <;> fail))))
          try simp only [Act.put, nz1, nz2, nz3]
          first | (focus (refine' takeG 15 rfl (by kernel_rfl) ?_ ?_ ?_; rotate_left; (focus (first | rfl | (go_simp <;> fail))); (focus (intro w hSw; refine' yield_load rfl Try.underlying42 rfl rfl ?_ w hSw; (first | (apply FindX.box; (· (repeat constructor)); rfl) | exact FindX.mem (by assumption)))))) | (refine skipG 15 rfl (by kernel_rfl) ?_ ?_; (focus (first | rfl | (go_simp <;> fail))))
          try simp only [Act.put, nz1, nz2, nz3]
          first | (focus (refine takeG 16 (v := ?_) rfl (by kernel_rfl) ?_ ?_ ?_; rotate_left; (focus (first | rfl | (go_simp <;> fail))); (focus (intro w hSw; clear hSw; go_simp; try with_reducible rfl)))) | (refine skipG 16 rfl (by kernel_rfl) ?_ ?_; (focus (first | rfl | (go_simp <;> fail))))
          try simp only [Act.put, nz1, nz2, nz3]
          first | (focus (refine takeG 17 (v := ?_) rfl (by kernel_rfl) ?_ ?_ ?_; rotate_left; (focus (first | rfl | (go_simp <;> fail))); (focus (intro w hSw; clear hSw; go_simp; try with_reducible rfl)))) | (refine skipG 17 rfl (by kernel_rfl) ?_ ?_; (focus (first | rfl | (go_simp <;> fail))))
          try simp only [Act.put, nz1, nz2, nz3]
          first | (focus (refine takeG 18 (v := ?_) rfl (by kernel_rfl) ?_ ?_ ?_; rotate_left; (focus (first | rfl | (go_simp <;> fail))); (focus (intro w hSw; clear hSw; go_simp; try with_reducible rfl)))) | (refine skipG 18 rfl (by kernel_rfl) ?_ ?_; (focus (first | rfl | (go_simp <;> fail))))
          try simp only [Act.put, nz1, nz2, nz3]
          first | (focus (refine' takeG 19 rfl (by kernel_rfl) ?_ ?_ ?_; rotate_left; (focus (first | rfl | (go_simp <;> fail))); (focus (intro w hSw; refine' yield_load rfl Try.underlying22 rfl rfl ?_ w hSw; (first | (apply FindX.box; (· (repeat constructor)); rfl) | exact FindX.mem (by assumption)))))) | (refine skipG 19 rfl (by kernel_rfl) ?_ ?_; (focus (first | rfl | (go_simp <;> fail))))
          try simp only [Act.put, nz1, nz2, nz3]
          first | (focus (refine takeG 20 (v := ?_) rfl (by kernel_rfl) ?_ ?_ ?_; rotate_left; (focus (first | rfl | (go_simp <;> fail))); (focus (intro w hSw; clear hSw; go_simp; try with_reducible rfl)))) | (refine skipG 20 rfl (by kernel_rfl) ?_ ?_; (focus (first | rfl | (go_simp <;> fail))))
          try simp only [Act.put, nz1, nz2, nz3]
          first | (focus (refine' takeG 21 rfl (by kernel_rfl) ?_ ?_ ?_; rotate_left; (focus (first | rfl | (go_simp <;> fail))); (focus (intro w hSw; refine' yield_load rfl Try.underlying42 rfl rfl ?_ w hSw; (first | (apply FindX.box; (· (repeat constructor)); rfl) | exact FindX.mem (by assumption)))))) | (refine skipG 21 rfl (by kernel_rfl) ?_ ?_; (focus (first | rfl | (go_simp <;> fail))))
          try simp only [Act.put, nz1, nz2, nz3]
          first | (focus (refine takeG 22 (v := ?_) rfl (by kernel_rfl) ?_ ?_ ?_; rotate_left; (focus (first | rfl | (go_simp <;> fail))); (focus (intro w hSw; clear hSw; go_simp; try with_reducible rfl)))) | (refine skipG 22 rfl (by kernel_rfl) ?_ ?_; (focus (first | rfl | (go_simp <;> fail))))
          try simp only [Act.put, nz1, nz2, nz3]
          first | (focus (refine takeG 23 (v := ?_) rfl (by kernel_rfl) ?_ ?_ ?_; rotate_left; (focus (first | rfl | (go_simp <;> fail))); (focus (intro w hSw; clear hSw; go_simp; try with_reducible rfl)))) | (refine skipG 23 rfl (by kernel_rfl) ?_ ?_; (focus (first | rfl | (go_simp <;> fail))))
          try simp only [Act.put, nz1, nz2, nz3]
          first | (focus (refine takeG 24 (v := ?_) rfl (by kernel_rfl) ?_ ?_ ?_; rotate_left; (focus (first | rfl | (go_simp <;> fail))); (focus (intro w hSw; clear hSw; go_simp; try with_reducible rfl)))) | (refine skipG 24 rfl (by kernel_rfl) ?_ ?_; (focus (first | rfl | (go_simp <;> fail))))
          try simp only [Act.put, nz1, nz2, nz3]
          first | (focus (refine' takeG 25 rfl (by kernel_rfl) ?_ ?_ ?_; rotate_left; (focus (first | rfl | (go_simp <;> fail))); (focus (intro w hSw; refine' yield_load rfl Try.underlying22 rfl rfl ?_ w hSw; (first | (apply FindX.box; (· (repeat constructor)); rfl) | exact FindX.mem (by assumption)))))) | (refine skipG 25 rfl (by kernel_rfl) ?_ ?_; (focus (first | rfl | (go_simp <;> fail))))
          try simp only [Act.put, nz1, nz2, nz3]
          refine wpAnyH_ready (rs := [26]) (by kernel_rfl) (by simp) ?_
          refine consL 26 rfl (fun K hK => ?_) AllReadyH.nil
          first | (refine ifYes ?_ ?_; (focus rfl); go_simp; refine (same_c _ _ hS.inw _ _ _ _ HV.out HV'.out).mono ?_; rintro e' w67 ⟨rfl, rfl⟩; rw [R2.out]; go_wp2_with fail) | (refine ifNo ?_ ?_; focus (first | exact Bool.false_ne_true | (go_simp <;> fail)))
          refine hK.out _ _ (by first | exact ((hS.sx0.cons hS (by (repeat constructor))).cons hS (by (repeat constructor))) | exact Sx.le (by assumption) ((hS.sx0.cons hS (by (repeat constructor))).cons hS (by (repeat constructor)))) (fun hHeld => ?_)
          clear hK K
          try simp only [Act.put, nz1, nz2, nz3]
          first | (focus (refine takeG 27 (v := ?_) rfl (by kernel_rfl) ?_ ?_ ?_; rotate_left; (focus (first | rfl | (go_simp <;> fail))); (focus (intro w hSw; clear hSw; go_simp; try with_reducible rfl)))) | (refine skipG 27 rfl (by kernel_rfl) ?_ ?_; (focus (first | rfl | (go_simp <;> fail))))
          try simp only [Act.put, nz1, nz2, nz3]
          focus (refine takeN 28 (v := ?_) rfl (by kernel_rfl) ?_ ?_; rotate_left; focus (intro w hSw; clear hSw; go_simp; try with_reducible rfl))
          try simp only [Act.put, nz1, nz2, nz3]
          refine wpAnyH_done (by kernel_rfl) ?_ _
          refine NoPanic.normal ?_
          go_wp2_with (first 
    | ((with_reducible apply l_box (ty := 44) (y := (.tmp 0)) hS); (· (first | (go_simp; done) | (go_simp; with_reducible rfl))); (· exact rfl); clear hS; intro w2 b2 hS)
    | ((with_reducible apply l_box (ty := 44) (y := (.tmp 1)) hS); (· (first | (go_simp; done) | (go_simp; with_reducible rfl))); (· exact rfl); clear hS; intro w3 b3 hS)
    | ((with_reducible apply l_load hS); (· (first | exact Try.underlying3 | exact Try.underlying4 | exact Try.underlying22 | exact Try.underlying42)); (· exact rfl); (· exact rfl); (· (first | (apply Find.box; (· (repeat constructor)); rfl) | exact Find.mem (by assumption) | (apply Find.row; (· (repeat constructor)); assumption))))
    | ((with_reducible apply g_load hS); (· (first | exact Try.underlying3 | exact Try.underlying4 | exact Try.underlying22 | exact Try.underlying42)); (· exact rfl); (· (first | rfl | (go_simp; done))); (· exact rfl); (· (first | (apply Find.box; (· (repeat constructor)); rfl) | exact Find.mem (by assumption) | (apply Find.row; (· (repeat constructor)); assumption)))))
          go_roundw
          case rel => exact ⟨k + 1, hlt, by go_num, HT, hS⟩
          case measure => simp [intOf]; omega
        · have R2 := Lib.hid (decide_eq_false r2)
          have D := Lib.hid (sameD_no (fun h : d = e => r2 (by subst h; rfl)))
          clear r1 r2 hall
          go_wp2_with (first 
    | ((with_reducible apply l_box (ty := 44) (y := (.tmp 0)) hS); (· (first | (go_simp; done) | (go_simp; with_reducible rfl))); (· exact rfl); clear hS; intro w2 b2 hS)
    | ((with_reducible apply l_box (ty := 44) (y := (.tmp 1)) hS); (· (first | (go_simp; done) | (go_simp; with_reducible rfl))); (· exact rfl); clear hS; intro w3 b3 hS)
    | ((with_reducible apply l_load hS); (· (first | exact Try.underlying3 | exact Try.underlying4 | exact Try.underlying22 | exact Try.underlying42)); (· exact rfl); (· exact rfl); (· (first | (apply Find.box; (· (repeat constructor)); rfl) | exact Find.mem (by assumption) | (apply Find.row; (· (repeat constructor)); assumption))))
    | ((with_reducible apply g_load hS); (· (first | exact Try.underlying3 | exact Try.underlying4 | exact Try.underlying22 | exact Try.underlying42)); (· exact rfl); (· (first | rfl | (go_simp; done))); (· exact rfl); (· (first | (apply Find.box; (· (repeat constructor)); rfl) | exact Find.mem (by assumption) | (apply Find.row; (· (repeat constructor)); assumption)))))
          replace hS := hS.drew
          refine startL (S := Sx _ [(b2, _), (b3, _)]) (by kernel_rfl) ((hS.sx0.cons hS (by (repeat constructor))).cons hS (by (repeat constructor))) (fun _ _ _ _ => trivial) (fun hHeld => ?_)
          focus (refine takeN 0 (v := ?_) rfl (by kernel_rfl) ?_ ?_; rotate_left; focus (intro w hSw; clear hSw; go_simp; try with_reducible rfl))
          try simp only [Act.put, nz1, nz2, nz3]
          refine takeN 1 rfl (by kernel_rfl) (yield_load rfl Try.underlying42 rfl rfl (by (first | (apply FindX.box; (· (repeat constructor)); rfl) | exact FindX.mem (by assumption)))) ?_
          try simp only [Act.put, nz1, nz2, nz3]
          focus (refine takeN 2 (v := ?_) rfl (by kernel_rfl) ?_ ?_; rotate_left; focus (intro w hSw; clear hSw; go_simp; try with_reducible rfl))
          try simp only [Act.put, nz1, nz2, nz3]
          focus (refine takeN 3 (v := ?_) rfl (by kernel_rfl) ?_ ?_; rotate_left; focus (intro w hSw; clear hSw; go_simp; try with_reducible rfl))
          try simp only [Act.put, nz1, nz2, nz3]
          focus (refine takeN 4 (v := ?_) rfl (by kernel_rfl) ?_ ?_; rotate_left; focus (intro w hSw; clear hSw; go_simp; try with_reducible rfl))
          try simp only [Act.put, nz1, nz2, nz3]
          refine takeN 5 rfl (by kernel_rfl) (yield_load rfl Try.underlying3 rfl rfl (by (first | (apply FindX.box; (· (repeat constructor)); rfl) | exact FindX.mem (by assumption)))) ?_
          try simp only [Act.put, nz1, nz2, nz3]
          focus (refine takeN 6 (v := ?_) rfl (by kernel_rfl) ?_ ?_; rotate_left; focus (intro w hSw; clear hSw; go_simp; try with_reducible rfl))
          try simp only [Act.put, nz1, nz2, nz3]
          refine takeN 7 rfl (by kernel_rfl) (yield_load rfl Try.underlying42 rfl rfl (by (first | (apply FindX.box; (· (repeat constructor)); rfl) | exact FindX.mem (by assumption)))) ?_
          try simp only [Act.put, nz1, nz2, nz3]
          focus (refine takeN 8 (v := ?_) rfl (by kernel_rfl) ?_ ?_; rotate_left; focus (intro w hSw; clear hSw; go_simp; try with_reducible rfl))
          try simp only [Act.put, nz1, nz2, nz3]
          focus (refine takeN 9 (v := ?_) rfl (by kernel_rfl) ?_ ?_; rotate_left; focus (intro w hSw; clear hSw; go_simp; try with_reducible rfl))
          try simp only [Act.put, nz1, nz2, nz3]
          focus (refine takeN 10 (v := ?_) rfl (by kernel_rfl) ?_ ?_; rotate_left; focus (intro w hSw; clear hSw; go_simp; try with_reducible rfl))
          try simp only [Act.put, nz1, nz2, nz3]
          refine takeN 11 rfl (by kernel_rfl) (yield_load rfl Try.underlying3 rfl rfl (by (first | (apply FindX.box; (· (repeat constructor)); rfl) | exact FindX.mem (by assumption)))) ?_
          try simp only [Act.put, nz1, nz2, nz3]
          focus (refine takeN 12 (v := ?_) rfl (by kernel_rfl) ?_ ?_; rotate_left; focus (intro w hSw; clear hSw; go_simp; try with_reducible rfl))
          try simp only [Act.put, nz1, nz2, nz3]
          focus (refine takeN 13 (v := ?_) rfl (by kernel_rfl) ?_ ?_; rotate_left; focus (intro w hSw; clear hSw; go_simp; try with_reducible rfl))
          try simp only [Act.put, nz1, nz2, nz3]
          first | (focus (refine takeG 14 (v := ?_) rfl (by kernel_rfl) ?_ ?_ ?_; rotate_left; (focus (first | rfl | (go_simp <;> fail))); (focus (intro w hSw; clear hSw; go_simp; try with_reducible rfl)))) | (refine skipG 14 rfl (by kernel_rfl) ?_ ?_; (focus (first | rfl | (go_simp <;> fail))))
          try simp only [Act.put, nz1, nz2, nz3]
          first | (focus (refine' takeG 15 rfl (by kernel_rfl) ?_ ?_ ?_; rotate_left; (focus (first | rfl | (go_simp <;> fail))); (focus (intro w hSw; refine' yield_load rfl Try.underlying42 rfl rfl ?_ w hSw; (first | (apply FindX.box; (· (repeat constructor)); rfl) | exact FindX.mem (by assumption)))))) | (refine skipG 15 rfl (by kernel_rfl) ?_ ?_; (focus (first | rfl | (go_simp <;> fail))))
          try simp only [Act.put, nz1, nz2, nz3]
          first | (focus (refine takeG 16 (v := ?_) rfl (by kernel_rfl) ?_ ?_ ?_; rotate_left; (focus (first | rfl | (go_simp <;> fail))); (focus (intro w hSw; clear hSw; go_simp; try with_reducible rfl)))) | (refine skipG 16 rfl (by kernel_rfl) ?_ ?_; (focus (first | rfl | (go_simp <;> fail))))
          try simp only [Act.put, nz1, nz2, nz3]
          first | (focus (refine takeG 17 (v := ?_) rfl (by kernel_rfl) ?_ ?_ ?_; rotate_left; (focus (first | rfl | (go_simp <;> fail))); (focus (intro w hSw; clear hSw; go_simp; try with_reducible rfl)))) | (refine skipG 17 rfl (by kernel_rfl) ?_ ?_; (focus (first | rfl | (go_simp <;> fail))))
          try simp only [Act.put, nz1, nz2, nz3]
          first | (focus (refine takeG 18 (v := ?_) rfl (by kernel_rfl) ?_ ?_ ?_; rotate_left; (focus (first | rfl | (go_simp <;> fail))); (focus (intro w hSw; clear hSw; go_simp; try with_reducible rfl)))) | (refine skipG 18 rfl (by kernel_rfl) ?_ ?_; (focus (first | rfl | (go_simp <;> fail))))
          try simp only [Act.put, nz1, nz2, nz3]
          first | (focus (refine' takeG 19 rfl (by kernel_rfl) ?_ ?_ ?_; rotate_left; (focus (first | rfl | (go_simp <;> fail))); (focus (intro w hSw; refine' yield_load rfl Try.underlying22 rfl rfl ?_ w hSw; (first | (apply FindX.box; (· (repeat constructor)); rfl) | exact FindX.mem (by assumption)))))) | (refine skipG 19 rfl (by kernel_rfl) ?_ ?_; (focus (first | rfl | (go_simp <;> fail))))
          try simp only [Act.put, nz1, nz2, nz3]
          first | (focus (refine takeG 20 (v := ?_) rfl (by kernel_rfl) ?_ ?_ ?_; rotate_left; (focus (first | rfl | (go_simp <;> fail))); (focus (intro w hSw; clear hSw; go_simp; try with_reducible rfl)))) | (refine skipG 20 rfl (by kernel_rfl) ?_ ?_; (focus (first | rfl | (go_simp <;> fail))))
          try simp only [Act.put, nz1, nz2, nz3]
          first | (focus (refine' takeG 21 rfl (by kernel_rfl) ?_ ?_ ?_; rotate_left; (focus (first | rfl | (go_simp <;> fail))); (focus (intro w hSw; refine' yield_load rfl Try.underlying42 rfl rfl ?_ w hSw; (first | (apply FindX.box; (· (repeat constructor)); rfl) | exact FindX.mem (by assumption)))))) | (refine skipG 21 rfl (by kernel_rfl) ?_ ?_; (focus (first | rfl | (go_simp <;> fail))))
          try simp only [Act.put, nz1, nz2, nz3]
          first | (focus (refine takeG 22 (v := ?_) rfl (by kernel_rfl) ?_ ?_ ?_; rotate_left; (focus (first | rfl | (go_simp <;> fail))); (focus (intro w hSw; clear hSw; go_simp; try with_reducible rfl)))) | (refine skipG 22 rfl (by kernel_rfl) ?_ ?_; (focus (first | rfl | (go_simp <;> fail))))
          try simp only [Act.put, nz1, nz2, nz3]
          first | (focus (refine takeG 23 (v := ?_) rfl (by kernel_rfl) ?_ ?_ ?_; rotate_left; (focus (first | rfl | (go_simp <;> fail))); (focus (intro w hSw; clear hSw; go_simp; try with_reducible rfl)))) | (refine skipG 23 rfl (by kernel_rfl) ?_ ?_; (focus (first | rfl | (go_simp <;> fail))))
          try simp only [Act.put, nz1, nz2, nz3]
          first | (focus (refine takeG 24 (v := ?_) rfl (by kernel_rfl) ?_ ?_ ?_; rotate_left; (focus (first | rfl | (go_simp <;> fail))); (focus (intro w hSw; clear hSw; go_simp; try with_reducible rfl)))) | (refine skipG 24 rfl (by kernel_rfl) ?_ ?_; (focus (first | rfl | (go_simp <;> fail))))
          try simp only [Act.put, nz1, nz2, nz3]
          first | (focus (refine' takeG 25 rfl (by kernel_rfl) ?_ ?_ ?_; rotate_left; (focus (first | rfl | (go_simp <;> fail))); (focus (intro w hSw; refine' yield_load rfl Try.underlying22 rfl rfl ?_ w hSw; (first | (apply FindX.box; (· (repeat constructor)); rfl) | exact FindX.mem (by assumption)))))) | (refine skipG 25 rfl (by kernel_rfl) ?_ ?_; (focus (first | rfl | (go_simp <;> fail))))
          try simp only [Act.put, nz1, nz2, nz3]
          refine wpAnyH_ready (rs := [26]) (by kernel_rfl) (by simp) ?_
          refine consL 26 rfl (fun K hK => ?_) AllReadyH.nil
          first | (refine ifYes ?_ ?_; (focus rfl); go_simp; refine (same_c _ _ hS.inw _ _ _ _ HV.out HV'.out).mono ?_; rintro e' w67 ⟨rfl, rfl⟩; rw [R2.out]; go_wp2_with fail) | (refine ifNo ?_ ?_; focus (first | exact Bool.false_ne_true | (go_simp <;> fail)))
          refine hK.out _ _ (by first | exact ((hS.sx0.cons hS (by (repeat constructor))).cons hS (by (repeat constructor))) | exact Sx.le (by assumption) ((hS.sx0.cons hS (by (repeat constructor))).cons hS (by (repeat constructor)))) (fun hHeld => ?_)
          clear hK K
          try simp only [Act.put, nz1, nz2, nz3]
          first | (focus (refine takeG 27 (v := ?_) rfl (by kernel_rfl) ?_ ?_ ?_; rotate_left; (focus (first | rfl | (go_simp <;> fail))); (focus (intro w hSw; clear hSw; go_simp; try with_reducible rfl)))) | (refine skipG 27 rfl (by kernel_rfl) ?_ ?_; (focus (first | rfl | (go_simp <;> fail))))
          try simp only [Act.put, nz1, nz2, nz3]
          focus (refine takeN 28 (v := ?_) rfl (by kernel_rfl) ?_ ?_; rotate_left; focus (intro w hSw; clear hSw; go_simp; try with_reducible rfl))
          try simp only [Act.put, nz1, nz2, nz3]
          refine wpAnyH_done (by kernel_rfl) ?_ _
          refine NoPanic.normal ?_
          go_wp2_with (first 
    | ((with_reducible apply l_box (ty := 44) (y := (.tmp 0)) hS); (· (first | (go_simp; done) | (go_simp; with_reducible rfl))); (· exact rfl); clear hS; intro w2 b2 hS)
    | ((with_reducible apply l_box (ty := 44) (y := (.tmp 1)) hS); (· (first | (go_simp; done) | (go_simp; with_reducible rfl))); (· exact rfl); clear hS; intro w3 b3 hS)
    | ((with_reducible apply l_load hS); (· (first | exact Try.underlying3 | exact Try.underlying4 | exact Try.underlying22 | exact Try.underlying42)); (· exact rfl); (· exact rfl); (· (first | (apply Find.box; (· (repeat constructor)); rfl) | exact Find.mem (by assumption) | (apply Find.row; (· (repeat constructor)); assumption))))
    | ((with_reducible apply g_load hS); (· (first | exact Try.underlying3 | exact Try.underlying4 | exact Try.underlying22 | exact Try.underlying42)); (· exact rfl); (· (first | rfl | (go_simp; done))); (· exact rfl); (· (first | (apply Find.box; (· (repeat constructor)); rfl) | exact Find.mem (by assumption) | (apply Find.row; (· (repeat constructor)); assumption)))))
          go_ret
          exact ⟨_, m, rfl, by rw [D.out] <;> rfl, hS.done⟩
      · have R1 : (d.wet[k].pos != e.wet[k].pos) = true := by rw [bne_iff_ne]; exact r1
        have D := Lib.hid (sameD_no (fun h : d = e => r1 (by subst h; rfl)))
        clear r1 hall
        go_wp2_with (first 
    | ((with_reducible apply l_box (ty := 44) (y := (.tmp 0)) hS); (· (first | (go_simp; done) | (go_simp; with_reducible rfl))); (· exact rfl); clear hS; intro w2 b2 hS)
    | ((with_reducible apply l_box (ty := 44) (y := (.tmp 1)) hS); (· (first | (go_simp; done) | (go_simp; with_reducible rfl))); (· exact rfl); clear hS; intro w3 b3 hS)
    | ((with_reducible apply l_load hS); (· (first | exact Try.underlying3 | exact Try.underlying4 | exact Try.underlying22 | exact Try.underlying42)); (· exact rfl); (· exact rfl); (· (first | (apply Find.box; (· (repeat constructor)); rfl) | exact Find.mem (by assumption) | (apply Find.row; (· (repeat constructor)); assumption))))
    | ((with_reducible apply g_load hS); (· (first | exact Try.underlying3 | exact Try.underlying4 | exact Try.underlying22 | exact Try.underlying42)); (· exact rfl); (· (first | rfl | (go_simp; done))); (· exact rfl); (· (first | (apply Find.box; (· (repeat constructor)); rfl) | exact Find.mem (by assumption) | (apply Find.row; (· (repeat constructor)); assumption)))))
        replace hS := hS.drew
        refine startL (S := Sx _ [(b2, _), (b3, _)]) (by kernel_rfl) ((hS.sx0.cons hS (by (repeat constructor))).cons hS (by (repeat constructor))) (fun _ _ _ _ => trivial) (fun hHeld => ?_)
        focus (refine takeN 0 (v := ?_) rfl (by kernel_rfl) ?_ ?_; rotate_left; focus (intro w hSw; clear hSw; go_simp; try with_reducible rfl))
        try simp only [Act.put, nz1, nz2, nz3]
        refine takeN 1 rfl (by kernel_rfl) (yield_load rfl Try.underlying42 rfl rfl (by (first | (apply FindX.box; (· (repeat constructor)); rfl) | exact FindX.mem (by assumption)))) ?_
        try simp only [Act.put, nz1, nz2, nz3]
        focus (refine takeN 2 (v := ?_) rfl (by kernel_rfl) ?_ ?_; rotate_left; focus (intro w hSw; clear hSw; go_simp; try with_reducible rfl))
        try simp only [Act.put, nz1, nz2, nz3]
        focus (refine takeN 3 (v := ?_) rfl (by kernel_rfl) ?_ ?_; rotate_left; focus (intro w hSw; clear hSw; go_simp; try with_reducible rfl))
        try simp only [Act.put, nz1, nz2, nz3]
        focus (refine takeN 4 (v := ?_) rfl (by kernel_rfl) ?_ ?_; rotate_left; focus (intro w hSw; clear hSw; go_simp; try with_reducible rfl))
        try simp only [Act.put, nz1, nz2, nz3]
        refine takeN 5 rfl (by kernel_rfl) (yield_load rfl Try.underlying3 rfl rfl (by (first | (apply FindX.box; (· (repeat constructor)); rfl) | exact FindX.mem (by assumption)))) ?_
        try simp only [Act.put, nz1, nz2, nz3]
        focus (refine takeN 6 (v := ?_) rfl (by kernel_rfl) ?_ ?_; rotate_left; focus (intro w hSw; clear hSw; go_simp; try with_reducible rfl))
        try simp only [Act.put, nz1, nz2, nz3]
        refine takeN 7 rfl (by kernel_rfl) (yield_load rfl Try.underlying42 rfl rfl (by (first | (apply FindX.box; (· (repeat constructor)); rfl) | exact FindX.mem (by assumption)))) ?_
        try simp only [Act.put, nz1, nz2, nz3]
        focus (refine takeN 8 (v := ?_) rfl (by kernel_rfl) ?_ ?_; rotate_left; focus (intro w hSw; clear hSw; go_simp; try with_reducible rfl))
        try simp only [Act.put, nz1, nz2, nz3]
        focus (refine takeN 9 (v := ?_) rfl (by kernel_rfl) ?_ ?_; rotate_left; focus (intro w hSw; clear hSw; go_simp; try with_reducible rfl))
        try simp only [Act.put, nz1, nz2, nz3]
        focus (refine takeN 10 (v := ?_) rfl (by kernel_rfl) ?_ ?_; rotate_left; focus (intro w hSw; clear hSw; go_simp; try with_reducible rfl))
        try simp only [Act.put, nz1, nz2, nz3]
        refine takeN 11 rfl (by kernel_rfl) (yield_load rfl Try.underlying3 rfl rfl (by (first | (apply FindX.box; (· (repeat constructor)); rfl) | exact FindX.mem (by assumption)))) ?_
        try simp only [Act.put, nz1, nz2, nz3]
        focus (refine takeN 12 (v := ?_) rfl (by kernel_rfl) ?_ ?_; rotate_left; focus (intro w hSw; clear hSw; go_simp; try with_reducible rfl))
        try simp only [Act.put, nz1, nz2, nz3]
        focus (refine takeN 13 (v := ?_) rfl (by kernel_rfl) ?_ ?_; rotate_left; focus (intro w hSw; clear hSw; go_simp; try with_reducible rfl))
        try simp only [Act.put, nz1, nz2, nz3]
        first | (focus (refine takeG 14 (v := ?_) rfl (by kernel_rfl) ?_ ?_ ?_; rotate_left; (focus (first | rfl | (go_simp <;> fail))); (focus (intro w hSw; clear hSw; go_simp; try with_reducible rfl)))) | (refine skipG 14 rfl (by kernel_rfl) ?_ ?_; (focus (first | rfl | (go_simp <;> fail))))
        try simp only [Act.put, nz1, nz2, nz3]
        first | (focus (refine' takeG 15 rfl (by kernel_rfl) ?_ ?_ ?_; rotate_left; (focus (first | rfl | (go_simp <;> fail))); (focus (intro w hSw; refine' yield_load rfl Try.underlying42 rfl rfl ?_ w hSw; (first | (apply FindX.box; (· (repeat constructor)); rfl) | exact FindX.mem (by assumption)))))) | (refine skipG 15 rfl (by kernel_rfl) ?_ ?_; (focus (first | rfl | (go_simp <;> fail))))
        try simp only [Act.put, nz1, nz2, nz3]
        first | (focus (refine takeG 16 (v := ?_) rfl (by kernel_rfl) ?_ ?_ ?_; rotate_left; (focus (first | rfl | (go_simp <;> fail))); (focus (intro w hSw; clear hSw; go_simp; try with_reducible rfl)))) | (refine skipG 16 rfl (by kernel_rfl) ?_ ?_; (focus (first | rfl | (go_simp <;> fail))))
        try simp only [Act.put, nz1, nz2, nz3]
        first | (focus (refine takeG 17 (v := ?_) rfl (by kernel_rfl) ?_ ?_ ?_; rotate_left; (focus (first | rfl | (go_simp <;> fail))); (focus (intro w hSw; clear hSw; go_simp; try with_reducible rfl)))) | (refine skipG 17 rfl (by kernel_rfl) ?_ ?_; (focus (first | rfl | (go_simp <;> fail))))
        try simp only [Act.put, nz1, nz2, nz3]
        first | (focus (refine takeG 18 (v := ?_) rfl (by kernel_rfl) ?_ ?_ ?_; rotate_left; (focus (first | rfl | (go_simp <;> fail))); (focus (intro w hSw; clear hSw; go_simp; try with_reducible rfl)))) | (refine skipG 18 rfl (by kernel_rfl) ?_ ?_; (focus (first | rfl | (go_simp <;> fail))))
        try simp only [Act.put, nz1, nz2, nz3]
        first | (focus (refine' takeG 19 rfl (by kernel_rfl) ?_ ?_ ?_; rotate_left; (focus (first | rfl | (go_simp <;> fail))); (focus (intro w hSw; refine' yield_load rfl Try.underlying22 rfl rfl ?_ w hSw; (first | (apply FindX.box; (· (repeat constructor)); rfl) | exact FindX.mem (by assumption)))))) | (refine skipG 19 rfl (by kernel_rfl) ?_ ?_; (focus (first | rfl | (go_simp <;> fail))))
        try simp only [Act.put, nz1, nz2, nz3]
        first | (focus (refine takeG 20 (v := ?_) rfl (by kernel_rfl) ?_ ?_ ?_; rotate_left; (focus (first | rfl | (go_simp <;> fail))); (focus (intro w hSw; clear hSw; go_simp; try with_reducible rfl)))) | (refine skipG 20 rfl (by kernel_rfl) ?_ ?_; (focus (first | rfl | (go_simp <;> fail))))
        try simp only [Act.put, nz1, nz2, nz3]
        first | (focus (refine' takeG 21 rfl (by kernel_rfl) ?_ ?_ ?_; rotate_left; (focus (first | rfl | (go_simp <;> fail))); (focus (intro w hSw; refine' yield_load rfl Try.underlying42 rfl rfl ?_ w hSw; (first | (apply FindX.box; (· (repeat constructor)); rfl) | exact FindX.mem (by assumption)))))) | (refine skipG 21 rfl (by kernel_rfl) ?_ ?_; (focus (first | rfl | (go_simp <;> fail))))
        try simp only [Act.put, nz1, nz2, nz3]
        first | (focus (refine takeG 22 (v := ?_) rfl (by kernel_rfl) ?_ ?_ ?_; rotate_left; (focus (first | rfl | (go_simp <;> fail))); (focus (intro w hSw; clear hSw; go_simp; try with_reducible rfl)))) | (refine skipG 22 rfl (by kernel_rfl) ?_ ?_; (focus (first | rfl | (go_simp <;> fail))))
        try simp only [Act.put, nz1, nz2, nz3]
        first | (focus (refine takeG 23 (v := ?_) rfl (by kernel_rfl) ?_ ?_ ?_; rotate_left; (focus (first | rfl | (go_simp <;> fail))); (focus (intro w hSw; clear hSw; go_simp; try with_reducible rfl)))) | (refine skipG 23 rfl (by kernel_rfl) ?_ ?_; (focus (first | rfl | (go_simp <;> fail))))
        try simp only [Act.put, nz1, nz2, nz3]
        first | (focus (refine takeG 24 (v := ?_) rfl (by kernel_rfl) ?_ ?_ ?_; rotate_left; (focus (first | rfl | (go_simp <;> fail))); (focus (intro w hSw; clear hSw; go_simp; try with_reducible rfl)))) | (refine skipG 24 rfl (by kernel_rfl) ?_ ?_; (focus (first | rfl | (go_simp <;> fail))))
        try simp only [Act.put, nz1, nz2, nz3]
        first | (focus (refine' takeG 25 rfl (by kernel_rfl) ?_ ?_ ?_; rotate_left; (focus (first | rfl | (go_simp <;> fail))); (focus (intro w hSw; refine' yield_load rfl Try.underlying22 rfl rfl ?_ w hSw; (first | (apply FindX.box; (· (repeat constructor)); rfl) | exact FindX.mem (by assumption)))))) | (refine skipG 25 rfl (by kernel_rfl) ?_ ?_; (focus (first | rfl | (go_simp <;> fail))))
        try simp only [Act.put, nz1, nz2, nz3]
        refine wpAnyH_ready (rs := [26]) (by kernel_rfl) (by simp) ?_
        refine consL 26 rfl (fun K hK => ?_) AllReadyH.nil
        first | (refine ifYes ?_ ?_; (focus rfl); go_simp; refine (same_c _ _ hS.inw _ _ _ _ HV.out HV'.out).mono ?_; rintro e' w67 ⟨rfl, rfl⟩; go_wp2_with fail) | (refine ifNo ?_ ?_; focus (first | exact Bool.false_ne_true | (go_simp <;> fail)))
        refine hK.out _ _ (by first | exact ((hS.sx0.cons hS (by (repeat constructor))).cons hS (by (repeat constructor))) | exact Sx.le (by assumption) ((hS.sx0.cons hS (by (repeat constructor))).cons hS (by (repeat constructor)))) (fun hHeld => ?_)
        clear hK K
        try simp only [Act.put, nz1, nz2, nz3]
        first | (focus (refine takeG 27 (v := ?_) rfl (by kernel_rfl) ?_ ?_ ?_; rotate_left; (focus (first | rfl | (go_simp <;> fail))); (focus (intro w hSw; clear hSw; go_simp; try with_reducible rfl)))) | (refine skipG 27 rfl (by kernel_rfl) ?_ ?_; (focus (first | rfl | (go_simp <;> fail))))
        try simp only [Act.put, nz1, nz2, nz3]
        focus (refine takeN 28 (v := ?_) rfl (by kernel_rfl) ?_ ?_; rotate_left; focus (intro w hSw; clear hSw; go_simp; try with_reducible rfl))
        try simp only [Act.put, nz1, nz2, nz3]
        refine wpAnyH_done (by kernel_rfl) ?_ _
        refine NoPanic.normal ?_
        go_wp2_with (first 
    | ((with_reducible apply l_box (ty := 44) (y := (.tmp 0)) hS); (· (first | (go_simp; done) | (go_simp; with_reducible rfl))); (· exact rfl); clear hS; intro w2 b2 hS)
    | ((with_reducible apply l_box (ty := 44) (y := (.tmp 1)) hS); (· (first | (go_simp; done) | (go_simp; with_reducible rfl))); (· exact rfl); clear hS; intro w3 b3 hS)
    | ((with_reducible apply l_load hS); (· (first | exact Try.underlying3 | exact Try.underlying4 | exact Try.underlying22 | exact Try.underlying42)); (· exact rfl); (· exact rfl); (· (first | (apply Find.box; (· (repeat constructor)); rfl) | exact Find.mem (by assumption) | (apply Find.row; (· (repeat constructor)); assumption))))
    | ((with_reducible apply g_load hS); (· (first | exact Try.underlying3 | exact Try.underlying4 | exact Try.underlying22 | exact Try.underlying42)); (· exact rfl); (· (first | rfl | (go_simp; done))); (· exact rfl); (· (first | (apply Find.box; (· (repeat constructor)); rfl) | exact Find.mem (by assumption) | (apply Find.row; (· (repeat constructor)); assumption)))))
        go_ret
        exact ⟨_, m, rfl, by rw [D.out] <;> rfl, hS.done⟩
    · obtain rfl : k = d.wet.length := by omega
      go_wp2_with (first 
    | ((with_reducible apply l_box (ty := 44) (y := (.tmp 0)) hS); (· (first | (go_simp; done) | (go_simp; with_reducible rfl))); (· exact rfl); clear hS; intro w2 b2 hS)
    | ((with_reducible apply l_box (ty := 44) (y := (.tmp 1)) hS); (· (first | (go_simp; done) | (go_simp; with_reducible rfl))); (· exact rfl); clear hS; intro w3 b3 hS)
    | ((with_reducible apply l_load hS); (· (first | exact Try.underlying3 | exact Try.underlying4 | exact Try.underlying22 | exact Try.underlying42)); (· exact rfl); (· exact rfl); (· (first | (apply Find.box; (· (repeat constructor)); rfl) | exact Find.mem (by assumption) | (apply Find.row; (· (repeat constructor)); assumption))))
    | ((with_reducible apply g_load hS); (· (first | exact Try.underlying3 | exact Try.underlying4 | exact Try.underlying22 | exact Try.underlying42)); (· exact rfl); (· (first | rfl | (go_simp; done))); (· exact rfl); (· (first | (apply Find.box; (· (repeat constructor)); rfl) | exact Find.mem (by assumption) | (apply Find.row; (· (repeat constructor)); assumption)))))
      go_ret
      have := hall.out
      rw [List.take_length, List.take_of_length_le (by rw [QQ2.out]; exact Nat.le_refl _)] at this
      exact ⟨_, m, rfl, by rw [sameD_true QQ1.out this QQ3.out QQ4.out] <;> rfl, hS.done⟩
end Go.Proofs.Ytnmgiiaejpaeeaa
/- Contracts over the state of a walk: bytes.Equal, disk.Same. -/
namespace Go.Proofs.Ytnmgiiaejpaeeaa
set_option linter.unusedVariables false
set_option linter.unusedSimpArgs false
open Go.RowKit Go.Shelf
theorem beq_any (p q : Option Addr) (c d : Nat) (xs ys : List Int) (w : World) (hx : Rd .u8 w p xs) (hy : Rd .u8 w q ys) (bx : IsB xs) (by' : IsB ys) :
    Calls Try.prog 85 #[.slice p xs.length c, .slice q ys.length d] w fun e w' => e = .returned (.bool (decide (xs = ys))) ∧ w = w' := by
  have k1 := conv_rd (c := c) hx 0
  have k2 := conv_rd (c := d) hy 0
  simp only [World.drewN_zero] at k1 k2
  have s := strs_beq bx by'
  generalize decide (xs = ys) = B at *
  generalize strOfNums xs = S at *
  generalize strOfNums ys = T at *
  go_enter Try.func85, Try.ntmps85
  go_wp2
  go_ret
  exact ⟨rfl, rfl⟩
theorem beq_c (m : Mem) (w : World) (hm : m.In w) (va vb : Value) (xs ys : List Int) (ha : bytesL.rd m [va] xs) (hb : bytesL.rd m [vb] ys) :
    Calls Try.prog 85 #[va, vb] w fun e w' => e = .returned (.bool (decide (xs = ys))) ∧ w = w' := by
  obtain ⟨p0, c0, rfl, a1, a2, _, a4⟩ := Lay.list_open ha
  obtain ⟨p1, c1, rfl, b1, b2, b3, b4⟩ := Lay.list_open hb
  exact beq_any _ _ _ _ _ _ w (a4.rdInt hm) (b4.rdInt hm) (inK_isB a4.inK) (inK_isB b4.inK)
set_option maxRecDepth 100000 in
set_option maxHeartbeats 4000000 in
theorem same1_c (m : Mem) (w : World) (hm : m.In w) (cs ds : List Value) (x y : Wr) (h : wrL.rd m cs x) (h' : wrL.rd m ds y) :
    Calls Try.prog 84 #[.agg cs.toArray, .agg ds.toArray] w (Ret w m fun v _ => v = .bool (decide (x = y))) := by
  obtain ⟨v0, rfl, _, h1⟩ := wrL_open h
  obtain ⟨v1, rfl, _, h2⟩ := wrL_open h'
  have H1 := Lib.hid h1
  have H2 := Lib.hid h2
  obtain ⟨p0, c0, rfl, _⟩ := Lay.list_open h1
  obtain ⟨p1, c1, rfl, _⟩ := Lay.list_open h2
  have hS := St.start hm
  clear h h' h1 h2
  by_cases q1 : x.pos = y.pos
  · have R1 : (x.pos == y.pos) = true := by simpa using q1
    have D : Hid (decide (x = y) = decide (x.b = y.b)) := by
      show _ = _
      cases x; cases y; simp_all
    clear q1
    go_enter Try.func84, Try.ntmps84
    go_wp2_with (first 
    | ((with_reducible apply l_box (ty := 102) (y := (.tmp 0)) hS); (· (first | (go_simp; done) | (go_simp; with_reducible rfl))); (· exact rfl); clear hS; intro w2 b2 hS)
    | ((with_reducible apply l_box (ty := 102) (y := (.tmp 1)) hS); (· (first | (go_simp; done) | (go_simp; with_reducible rfl))); (· exact rfl); clear hS; intro w3 b3 hS)
    | ((with_reducible apply l_load hS); (· (first | exact Try.underlying3 | exact Try.underlying22)); (· exact rfl); (· exact rfl); (· (first | (apply Find.box; (· (repeat constructor)); rfl) | exact Find.mem (by assumption) | (apply Find.row; (· (repeat constructor)); assumption))))
    | ((with_reducible apply g_load hS); (· (first | exact Try.underlying3 | exact Try.underlying22)); (· exact rfl); (· (first | rfl | (go_simp; done))); (· exact rfl); (· (first | (apply Find.box; (· (repeat constructor)); rfl) | exact Find.mem (by assumption) | (apply Find.row; (· (repeat constructor)); assumption))))
      | (go_at_call 85; refine (beq_c _ _ hS.inw _ _ _ _ H1.out H2.out).mono ?_; rintro e' w10 ⟨rfl, rfl⟩; rw [← D.out]; generalize hB : decide (x = y) = B; have HB := Lib.hid hB; clear hB))
    go_ret
    exact ⟨_, m, rfl, by rw [HB.out] <;> rfl, hS.done⟩
  · have R1 : (x.pos == y.pos) = false := by simpa using q1
    have D := Lib.hid (decide_eq_false (fun h : x = y => q1 (by rw [h])))
    clear q1
    go_enter Try.func84, Try.ntmps84
    go_wp2_with (first 
    | ((with_reducible apply l_box (ty := 102) (y := (.tmp 0)) hS); (· (first | (go_simp; done) | (go_simp; with_reducible rfl))); (· exact rfl); clear hS; intro w2 b2 hS)
    | ((with_reducible apply l_box (ty := 102) (y := (.tmp 1)) hS); (· (first | (go_simp; done) | (go_simp; with_reducible rfl))); (· exact rfl); clear hS; intro w3 b3 hS)
    | ((with_reducible apply l_load hS); (· (first | exact Try.underlying3 | exact Try.underlying22)); (· exact rfl); (· exact rfl); (· (first | (apply Find.box; (· (repeat constructor)); rfl) | exact Find.mem (by assumption) | (apply Find.row; (· (repeat constructor)); assumption))))
    | ((with_reducible apply g_load hS); (· (first | exact Try.underlying3 | exact Try.underlying22)); (· exact rfl); (· (first | rfl | (go_simp; done))); (· exact rfl); (· (first | (apply Find.box; (· (repeat constructor)); rfl) | exact Find.mem (by assumption) | (apply Find.row; (· (repeat constructor)); assumption)))))
    go_ret
    exact ⟨_, m, rfl, by rw [D.out] <;> rfl, hS.done⟩
set_option maxRecDepth 100000 in
set_option maxHeartbeats 4000000 in
theorem eqf_c (m : Mem) (w : World) (hm : m.In w) (va vb : Value) (xs ys : List Wr) (ha : wrL.list.rd m [va] xs) (hb : wrL.list.rd m [vb] ys) :
    Calls Try.prog 86 #[va, vb, .func (.func 84) #[] #[]] w (Ret w m fun v _ => v = .bool (decide (xs = ys))) := by
  obtain ⟨p0, c0, rfl, a1, a2, a3, a4⟩ := Lay.list_open ha
  obtain ⟨p1, c1, rfl, b1, b2, b3, b4⟩ := Lay.list_open hb
  have A4 := Lib.hid a4
  have B4 := Lib.hid b4
  have eg := enters_of Try.func84 (by kernel_rfl) rfl
  simp only [maxLen] at a2 b2
  have hS := St.start hm
  clear ha hb a3 a4 b3 b4
  by_cases q2 : xs.length = ys.length
  case neg =>
    have D := Lib.hid (decide_eq_false (fun h : xs = ys => q2 (by rw [h])))
    have Q2 : ((xs.length : Int) != (ys.length : Int)) = true := by rw [bne_iff_ne]; omega
    clear q2
    go_enter Try.func86, Try.ntmps86
    go_wp2_with (first 
    | ((with_reducible apply l_alloc (ty := 102) (dst := some 8) hS (.agg #[.int .i64 0, .slice none 0 0]) [.int .i64 0, .slice none 0 0]); (· kernel_rfl); (· rfl); clear hS; intro w8 b8 hS)
    | ((with_reducible apply l_alloc (ty := 102) (dst := some 9) hS (.agg #[.int .i64 0, .slice none 0 0]) [.int .i64 0, .slice none 0 0]); (· kernel_rfl); (· rfl); clear hS; intro w9 b9 hS)
    | ((with_reducible apply l_loads hS); (· (first | exact rowT102)); (· exact rfl); (· (first | (apply Finds.box; (· (repeat constructor)); (· (repeat constructor)); done) | (refine Finds.mem2 (by assumption) ?_; first | rfl | assumption | (simp; done)) | (apply Finds.row; (· (repeat constructor)); (· assumption); (· rfl)))))
    | ((with_reducible apply g_loads hS); (· (first | exact rowT102)); (· (first | rfl | (go_simp; done))); (· exact rfl); (· (first | (apply Finds.box; (· (repeat constructor)); (· (repeat constructor)); done) | (refine Finds.mem2 (by assumption) ?_; first | rfl | assumption | (simp; done)) | (apply Finds.row; (· (repeat constructor)); (· assumption); (· rfl)))))
    | ((with_reducible apply l_stores hS); (· (first | exact rowT102)); (· exact rfl); (· exact rfl); (· exact rfl); (· (first | assumption | (simp [Value.oneCell']; done))); (· (repeat constructor)); (· (repeat constructor)); (· (repeat constructor)); clear hS; intro ws hS))
    go_ret
    exact ⟨_, m, rfl, by rw [D.out] <;> rfl, hS.done⟩
  have QQ2 := Lib.hid q2
  rw [← q2] at b1 ⊢
  clear q2
  go_enter Try.func86, Try.ntmps86
  go_wp2_with (first 
    | ((with_reducible apply l_alloc (ty := 102) (dst := some 8) hS (.agg #[.int .i64 0, .slice none 0 0]) [.int .i64 0, .slice none 0 0]); (· kernel_rfl); (· rfl); clear hS; intro w8 b8 hS)
    | ((with_reducible apply l_alloc (ty := 102) (dst := some 9) hS (.agg #[.int .i64 0, .slice none 0 0]) [.int .i64 0, .slice none 0 0]); (· kernel_rfl); (· rfl); clear hS; intro w9 b9 hS)
    | ((with_reducible apply l_loads hS); (· (first | exact rowT102)); (· exact rfl); (· (first | (apply Finds.box; (· (repeat constructor)); (· (repeat constructor)); done) | (refine Finds.mem2 (by assumption) ?_; first | rfl | assumption | (simp; done)) | (apply Finds.row; (· (repeat constructor)); (· assumption); (· rfl)))))
    | ((with_reducible apply g_loads hS); (· (first | exact rowT102)); (· (first | rfl | (go_simp; done))); (· exact rfl); (· (first | (apply Finds.box; (· (repeat constructor)); (· (repeat constructor)); done) | (refine Finds.mem2 (by assumption) ?_; first | rfl | assumption | (simp; done)) | (apply Finds.row; (· (repeat constructor)); (· assumption); (· rfl)))))
    | ((with_reducible apply l_stores hS); (· (first | exact rowT102)); (· exact rfl); (· exact rfl); (· exact rfl); (· (first | assumption | (simp [Value.oneCell']; done))); (· (repeat constructor)); (· (repeat constructor)); (· (repeat constructor)); clear hS; intro ws hS))
  go_loopw [17] (fun i wr => ∃ (k : Nat) (m2 : Mem), k ≤ xs.length ∧ i = .int .i64 k ∧ Hid (xs.take k = ys.take k) ∧ m.Le m2 ∧ St [] w m wr [] m2) (fun i _ => xs.length - (intOf i).toNat)
  case atStart => exact ⟨0, m, Nat.zero_le _, rfl, by simp [Hid], Mem.Le.refl _, hS⟩
  case round =>
    clear hS
    obtain ⟨k, m2, hk, rfl, hall, hle, hS⟩ := hrel
    by_cases hlt : k < xs.length
    · have hlt' : k < ys.length := by rw [← QQ2.out]; exact hlt
      obtain ⟨b, o, cs, rfl, hx, hg⟩ := (A4.out.mono hle).get k hlt
      have HX := Lib.hid hx
      obtain ⟨v, rfl, _, hv⟩ := wrL_open hx
      obtain ⟨q, c, rfl, x1, x2, x3, x4⟩ := Lay.list_open hv
      obtain ⟨bb, oo, cs', rfl, hx', hgg⟩ := (B4.out.mono hle).get k hlt'
      have HX' := Lib.hid hx'
      obtain ⟨v', rfl, _, hv'⟩ := wrL_open hx'
      obtain ⟨q', c', rfl, y1, y2, y3, y4⟩ := Lay.list_open hv'
      have hg1 : ∀ j v, [.int .i64 xs[k].pos, .slice q xs[k].b.length c][j]? = some v → m2 ⟨b, o + k * 2 + j, none⟩ = some v := hg
      have hg2 : ∀ j v, [.int .i64 ys[k].pos, .slice q' ys[k].b.length c'][j]? = some v → m2 ⟨bb, oo + k * 2 + j, none⟩ = some v := hgg
      clear hg hgg hx hx' hv hv' x1 x2 x3 x4 y1 y2 y3 y4
      by_cases r1 : xs[k] = ys[k]
      · have R := Lib.hid (decide_eq_true r1)
        have HT : Hid (xs.take (k + 1) = ys.take (k + 1)) := by
          show _ = _
          rw [List.take_succ_eq_append_getElem hlt, List.take_succ_eq_append_getElem hlt', hall.out, r1]
        clear r1 hall
        go_wp2_with (first 
    | ((with_reducible apply l_alloc (ty := 102) (dst := some 8) hS (.agg #[.int .i64 0, .slice none 0 0]) [.int .i64 0, .slice none 0 0]); (· kernel_rfl); (· rfl); clear hS; intro w8 b8 hS)
    | ((with_reducible apply l_alloc (ty := 102) (dst := some 9) hS (.agg #[.int .i64 0, .slice none 0 0]) [.int .i64 0, .slice none 0 0]); (· kernel_rfl); (· rfl); clear hS; intro w9 b9 hS)
    | ((with_reducible apply l_loads hS); (· (first | exact rowT102)); (· exact rfl); (· (first | (apply Finds.box; (· (repeat constructor)); (· (repeat constructor)); done) | (refine Finds.mem2 (by assumption) ?_; first | rfl | assumption | (simp; done)) | (apply Finds.row; (· (repeat constructor)); (· assumption); (· rfl)))))
    | ((with_reducible apply g_loads hS); (· (first | exact rowT102)); (· (first | rfl | (go_simp; done))); (· exact rfl); (· (first | (apply Finds.box; (· (repeat constructor)); (· (repeat constructor)); done) | (refine Finds.mem2 (by assumption) ?_; first | rfl | assumption | (simp; done)) | (apply Finds.row; (· (repeat constructor)); (· assumption); (· rfl)))))
    | ((with_reducible apply l_stores hS); (· (first | exact rowT102)); (· exact rfl); (· exact rfl); (· exact rfl); (· (first | assumption | (simp [Value.oneCell']; done))); (· (repeat constructor)); (· (repeat constructor)); (· (repeat constructor)); clear hS; intro ws hS)
          | (go_at_call 84; refine (same1_c _ _ hS.inw _ _ _ _ HX.out HX'.out).mono ?_; rintro e' w29 ⟨v29, m3, rfl, rfl, hk3⟩; rw [R.out]; replace hS := hS.call hk3; have hle3 := hk3.le; clear hk3))
        go_roundw
        case rel => exact ⟨k + 1, m3, hlt, by go_num, HT, hle.trans hle3, hS.done⟩
        case measure => simp [intOf]; omega
      · have R := Lib.hid (decide_eq_false r1)
        have D := Lib.hid (decide_eq_false (fun h : xs = ys => r1 (by subst h; rfl)))
        clear r1 hall
        go_wp2_with (first 
    | ((with_reducible apply l_alloc (ty := 102) (dst := some 8) hS (.agg #[.int .i64 0, .slice none 0 0]) [.int .i64 0, .slice none 0 0]); (· kernel_rfl); (· rfl); clear hS; intro w8 b8 hS)
    | ((with_reducible apply l_alloc (ty := 102) (dst := some 9) hS (.agg #[.int .i64 0, .slice none 0 0]) [.int .i64 0, .slice none 0 0]); (· kernel_rfl); (· rfl); clear hS; intro w9 b9 hS)
    | ((with_reducible apply l_loads hS); (· (first | exact rowT102)); (· exact rfl); (· (first | (apply Finds.box; (· (repeat constructor)); (· (repeat constructor)); done) | (refine Finds.mem2 (by assumption) ?_; first | rfl | assumption | (simp; done)) | (apply Finds.row; (· (repeat constructor)); (· assumption); (· rfl)))))
    | ((with_reducible apply g_loads hS); (· (first | exact rowT102)); (· (first | rfl | (go_simp; done))); (· exact rfl); (· (first | (apply Finds.box; (· (repeat constructor)); (· (repeat constructor)); done) | (refine Finds.mem2 (by assumption) ?_; first | rfl | assumption | (simp; done)) | (apply Finds.row; (· (repeat constructor)); (· assumption); (· rfl)))))
    | ((with_reducible apply l_stores hS); (· (first | exact rowT102)); (· exact rfl); (· exact rfl); (· exact rfl); (· (first | assumption | (simp [Value.oneCell']; done))); (· (repeat constructor)); (· (repeat constructor)); (· (repeat constructor)); clear hS; intro ws hS)
          | (go_at_call 84; refine (same1_c _ _ hS.inw _ _ _ _ HX.out HX'.out).mono ?_; rintro e' w29 ⟨v29, m3, rfl, rfl, hk3⟩; rw [R.out]; replace hS := hS.call hk3; clear hk3))
        go_ret
        exact ⟨_, _, rfl, by rw [D.out] <;> rfl, hS.done⟩
    · obtain rfl : k = xs.length := by omega
      go_wp2_with (first 
    | ((with_reducible apply l_alloc (ty := 102) (dst := some 8) hS (.agg #[.int .i64 0, .slice none 0 0]) [.int .i64 0, .slice none 0 0]); (· kernel_rfl); (· rfl); clear hS; intro w8 b8 hS)
    | ((with_reducible apply l_alloc (ty := 102) (dst := some 9) hS (.agg #[.int .i64 0, .slice none 0 0]) [.int .i64 0, .slice none 0 0]); (· kernel_rfl); (· rfl); clear hS; intro w9 b9 hS)
    | ((with_reducible apply l_loads hS); (· (first | exact rowT102)); (· exact rfl); (· (first | (apply Finds.box; (· (repeat constructor)); (· (repeat constructor)); done) | (refine Finds.mem2 (by assumption) ?_; first | rfl | assumption | (simp; done)) | (apply Finds.row; (· (repeat constructor)); (· assumption); (· rfl)))))
    | ((with_reducible apply g_loads hS); (· (first | exact rowT102)); (· (first | rfl | (go_simp; done))); (· exact rfl); (· (first | (apply Finds.box; (· (repeat constructor)); (· (repeat constructor)); done) | (refine Finds.mem2 (by assumption) ?_; first | rfl | assumption | (simp; done)) | (apply Finds.row; (· (repeat constructor)); (· assumption); (· rfl)))))
    | ((with_reducible apply l_stores hS); (· (first | exact rowT102)); (· exact rfl); (· exact rfl); (· exact rfl); (· (first | assumption | (simp [Value.oneCell']; done))); (· (repeat constructor)); (· (repeat constructor)); (· (repeat constructor)); clear hS; intro ws hS))
      go_ret
      have := hall.out
      rw [List.take_length, List.take_of_length_le (by rw [QQ2.out]; exact Nat.le_refl _)] at this
      exact ⟨_, _, rfl, by rw [decide_eq_true this] <;> rfl, hS.done⟩
set_option maxRecDepth 100000 in
set_option maxHeartbeats 4000000 in
theorem same_d (m : Mem) (w : World) (hm : m.In w) (cs ds : List Value) (d e : Dk) (h : dkL.rd m cs d) (h' : dkL.rd m ds e) :
    Calls Try.prog 52 #[.agg cs.toArray, .agg ds.toArray] w (Ret w m fun v _ => v = .bool (sameD d e)) := by
  obtain ⟨v0, v1, rfl, h0, h1, _⟩ := dkL_open h
  obtain ⟨v2, v3, rfl, h2, h3, _⟩ := dkL_open h'
  have H0 := Lib.hid h0
  have H1 := Lib.hid h1
  have H2 := Lib.hid h2
  have H3 := Lib.hid h3
  obtain ⟨p0, c0, rfl, _⟩ := Lay.list_open h0
  obtain ⟨p1, c1, rfl, _⟩ := Lay.list_open h1
  obtain ⟨p2, c2, rfl, _⟩ := Lay.list_open h2
  obtain ⟨p3, c3, rfl, _⟩ := Lay.list_open h3
  have hS := St.start hm
  clear h h' h0 h1 h2 h3
  by_cases q1 : d.dry = e.dry
  case neg =>
    have D := Lib.hid (sameD_no (fun h : d = e => q1 (by rw [h])))
    have Q1 := Lib.hid (decide_eq_false q1)
    clear q1
    go_enter Try.func52, Try.ntmps52
    go_wp2_with (first 
    | ((with_reducible apply l_box (ty := 44) (y := (.tmp 0)) hS); (· (first | (go_simp; done) | (go_simp; with_reducible rfl))); (· exact rfl); clear hS; intro w2 b2 hS)
    | ((with_reducible apply l_box (ty := 44) (y := (.tmp 1)) hS); (· (first | (go_simp; done) | (go_simp; with_reducible rfl))); (· exact rfl); clear hS; intro w3 b3 hS)
    | ((with_reducible apply l_load hS); (· (first | exact Try.underlying3 | exact Try.underlying4 | exact Try.underlying22 | exact Try.underlying42)); (· exact rfl); (· exact rfl); (· (first | (apply Find.box; (· (repeat constructor)); rfl) | exact Find.mem (by assumption) | (apply Find.row; (· (repeat constructor)); assumption))))
    | ((with_reducible apply g_load hS); (· (first | exact Try.underlying3 | exact Try.underlying4 | exact Try.underlying22 | exact Try.underlying42)); (· exact rfl); (· (first | rfl | (go_simp; done))); (· exact rfl); (· (first | (apply Find.box; (· (repeat constructor)); rfl) | exact Find.mem (by assumption) | (apply Find.row; (· (repeat constructor)); assumption))))
      | (go_at_call 85; refine (beq_c _ _ hS.inw _ _ _ _ H0.out H2.out).mono ?_; rintro e' w10 ⟨rfl, rfl⟩; rw [Q1.out])
      | (go_at_call 86; refine (eqf_c _ _ hS.inw _ _ _ _ H1.out H3.out).mono ?_; rintro e' w17 ⟨v17, m17, rfl, rfl, hk⟩; rw [Q2.out]; replace hS := hS.call hk; clear hk))
    go_ret
    exact ⟨_, _, rfl, by rw [D.out] <;> rfl, hS.done⟩
  have Q1 := Lib.hid (decide_eq_true q1)
  have QQ1 := Lib.hid q1
  clear q1
  by_cases q2 : d.wet = e.wet
  case neg =>
    have D := Lib.hid (sameD_no (fun h : d = e => q2 (by rw [h])))
    have Q2 := Lib.hid (decide_eq_false q2)
    clear q2
    go_enter Try.func52, Try.ntmps52
    go_wp2_with (first 
    | ((with_reducible apply l_box (ty := 44) (y := (.tmp 0)) hS); (· (first | (go_simp; done) | (go_simp; with_reducible rfl))); (· exact rfl); clear hS; intro w2 b2 hS)
    | ((with_reducible apply l_box (ty := 44) (y := (.tmp 1)) hS); (· (first | (go_simp; done) | (go_simp; with_reducible rfl))); (· exact rfl); clear hS; intro w3 b3 hS)
    | ((with_reducible apply l_load hS); (· (first | exact Try.underlying3 | exact Try.underlying4 | exact Try.underlying22 | exact Try.underlying42)); (· exact rfl); (· exact rfl); (· (first | (apply Find.box; (· (repeat constructor)); rfl) | exact Find.mem (by assumption) | (apply Find.row; (· (repeat constructor)); assumption))))
    | ((with_reducible apply g_load hS); (· (first | exact Try.underlying3 | exact Try.underlying4 | exact Try.underlying22 | exact Try.underlying42)); (· exact rfl); (· (first | rfl | (go_simp; done))); (· exact rfl); (· (first | (apply Find.box; (· (repeat constructor)); rfl) | exact Find.mem (by assumption) | (apply Find.row; (· (repeat constructor)); assumption))))
      | (go_at_call 85; refine (beq_c _ _ hS.inw _ _ _ _ H0.out H2.out).mono ?_; rintro e' w10 ⟨rfl, rfl⟩; rw [Q1.out])
      | (go_at_call 86; refine (eqf_c _ _ hS.inw _ _ _ _ H1.out H3.out).mono ?_; rintro e' w17 ⟨v17, m17, rfl, rfl, hk⟩; rw [Q2.out]; replace hS := hS.call hk; clear hk))
    go_ret
    exact ⟨_, _, rfl, by rw [D.out] <;> rfl, hS.done⟩
  have Q2 := Lib.hid (decide_eq_true q2)
  have QQ2 := Lib.hid q2
  clear q2
  by_cases q3 : d.fuse = e.fuse
  case neg =>
    have D := Lib.hid (sameD_no (fun h : d = e => q3 (by rw [h])))
    have Q3 : (d.fuse == e.fuse) = false := by simpa using q3
    clear q3
    go_enter Try.func52, Try.ntmps52
    go_wp2_with (first 
    | ((with_reducible apply l_box (ty := 44) (y := (.tmp 0)) hS); (· (first | (go_simp; done) | (go_simp; with_reducible rfl))); (· exact rfl); clear hS; intro w2 b2 hS)
    | ((with_reducible apply l_box (ty := 44) (y := (.tmp 1)) hS); (· (first | (go_simp; done) | (go_simp; with_reducible rfl))); (· exact rfl); clear hS; intro w3 b3 hS)
    | ((with_reducible apply l_load hS); (· (first | exact Try.underlying3 | exact Try.underlying4 | exact Try.underlying22 | exact Try.underlying42)); (· exact rfl); (· exact rfl); (· (first | (apply Find.box; (· (repeat constructor)); rfl) | exact Find.mem (by assumption) | (apply Find.row; (· (repeat constructor)); assumption))))
    | ((with_reducible apply g_load hS); (· (first | exact Try.underlying3 | exact Try.underlying4 | exact Try.underlying22 | exact Try.underlying42)); (· exact rfl); (· (first | rfl | (go_simp; done))); (· exact rfl); (· (first | (apply Find.box; (· (repeat constructor)); rfl) | exact Find.mem (by assumption) | (apply Find.row; (· (repeat constructor)); assumption))))
      | (go_at_call 85; refine (beq_c _ _ hS.inw _ _ _ _ H0.out H2.out).mono ?_; rintro e' w10 ⟨rfl, rfl⟩; rw [Q1.out])
      | (go_at_call 86; refine (eqf_c _ _ hS.inw _ _ _ _ H1.out H3.out).mono ?_; rintro e' w17 ⟨v17, m17, rfl, rfl, hk⟩; rw [Q2.out]; replace hS := hS.call hk; clear hk))
    go_ret
    exact ⟨_, _, rfl, by rw [D.out] <;> rfl, hS.done⟩
  have Q3 : (d.fuse == e.fuse) = true := by simpa using q3
  have QQ3 := Lib.hid q3
  clear q3
  by_cases q4 : d.dead = e.dead
  case neg =>
    have D := Lib.hid (sameD_no (fun h : d = e => q4 (by rw [h])))
    have hq : (d.dead = true ∧ e.dead = false) ∨ (d.dead = false ∧ e.dead = true) := by
      cases hd : d.dead <;> cases he : e.dead <;> simp_all
    clear q4
    rcases hq with ⟨h1, h2⟩ | ⟨h1, h2⟩
    all_goals
     rw [h1, h2]
     clear h1 h2
     go_enter Try.func52, Try.ntmps52
     go_wp2_with (first 
    | ((with_reducible apply l_box (ty := 44) (y := (.tmp 0)) hS); (· (first | (go_simp; done) | (go_simp; with_reducible rfl))); (· exact rfl); clear hS; intro w2 b2 hS)
    | ((with_reducible apply l_box (ty := 44) (y := (.tmp 1)) hS); (· (first | (go_simp; done) | (go_simp; with_reducible rfl))); (· exact rfl); clear hS; intro w3 b3 hS)
    | ((with_reducible apply l_load hS); (· (first | exact Try.underlying3 | exact Try.underlying4 | exact Try.underlying22 | exact Try.underlying42)); (· exact rfl); (· exact rfl); (· (first | (apply Find.box; (· (repeat constructor)); rfl) | exact Find.mem (by assumption) | (apply Find.row; (· (repeat constructor)); assumption))))
    | ((with_reducible apply g_load hS); (· (first | exact Try.underlying3 | exact Try.underlying4 | exact Try.underlying22 | exact Try.underlying42)); (· exact rfl); (· (first | rfl | (go_simp; done))); (· exact rfl); (· (first | (apply Find.box; (· (repeat constructor)); rfl) | exact Find.mem (by assumption) | (apply Find.row; (· (repeat constructor)); assumption))))
       | (go_at_call 85; refine (beq_c _ _ hS.inw _ _ _ _ H0.out H2.out).mono ?_; rintro e' w10 ⟨rfl, rfl⟩; rw [Q1.out])
       | (go_at_call 86; refine (eqf_c _ _ hS.inw _ _ _ _ H1.out H3.out).mono ?_; rintro e' w17 ⟨v17, m17, rfl, rfl, hk⟩; rw [Q2.out]; replace hS := hS.call hk; clear hk))
     go_ret
     exact ⟨_, _, rfl, by rw [D.out] <;> rfl, hS.done⟩
  have QQ4 := Lib.hid q4
  rw [← q4]
  clear q4
  have D := Lib.hid (sameD_true QQ1.out QQ2.out QQ3.out QQ4.out)
  go_enter Try.func52, Try.ntmps52
  go_wp2_with (first 
    | ((with_reducible apply l_box (ty := 44) (y := (.tmp 0)) hS); (· (first | (go_simp; done) | (go_simp; with_reducible rfl))); (· exact rfl); clear hS; intro w2 b2 hS)
    | ((with_reducible apply l_box (ty := 44) (y := (.tmp 1)) hS); (· (first | (go_simp; done) | (go_simp; with_reducible rfl))); (· exact rfl); clear hS; intro w3 b3 hS)
    | ((with_reducible apply l_load hS); (· (first | exact Try.underlying3 | exact Try.underlying4 | exact Try.underlying22 | exact Try.underlying42)); (· exact rfl); (· exact rfl); (· (first | (apply Find.box; (· (repeat constructor)); rfl) | exact Find.mem (by assumption) | (apply Find.row; (· (repeat constructor)); assumption))))
    | ((with_reducible apply g_load hS); (· (first | exact Try.underlying3 | exact Try.underlying4 | exact Try.underlying22 | exact Try.underlying42)); (· exact rfl); (· (first | rfl | (go_simp; done))); (· exact rfl); (· (first | (apply Find.box; (· (repeat constructor)); rfl) | exact Find.mem (by assumption) | (apply Find.row; (· (repeat constructor)); assumption))))
      | (go_at_call 85; refine (beq_c _ _ hS.inw _ _ _ _ H0.out H2.out).mono ?_; rintro e' w10 ⟨rfl, rfl⟩; rw [Q1.out])
      | (go_at_call 86; refine (eqf_c _ _ hS.inw _ _ _ _ H1.out H3.out).mono ?_; rintro e' w17 ⟨v17, m17, rfl, rfl, hk⟩; rw [Q2.out]; replace hS := hS.call hk; clear hk))
  go_ret
  exact ⟨_, _, rfl, by rw [D.out] <;> rfl, hS.done⟩
end Go.Proofs.Ytnmgiiaejpaeeaa
/- Contract over the state of a walk: the law's live. -/
namespace Go.Proofs.Ytnmgiiaejpaeeaa
set_option linter.unusedVariables false
set_option linter.unusedSimpArgs false
open Go.RowKit Go.Shelf
section
variable {P : Program} {X : List Nat} {w0 w : World} {m0 m : Mem} {es : List Ent}
theorem s_loads {ops : Array Oper} {a : Act} {K : Act → World → Prop} {Q : Exit → Act → World → Prop} {dst : Option Tmp} {rt : TypeId} {pos : String} {af : Array Edge} {E : Prop} {ty : TypeId} {x : Operand} (hS : St X w0 m0 w es m) {n : Nat} (hn : ∃ d, P.underlying ty = some d ∧ d.isRow = true ∧ (P.info? ty).map (·.size) = some n) {b off : Nat} (hx : a.eval x = .pointer (some ⟨b, off, none⟩)) {vs : List Value} (hv : Finds es m b off n vs)
    (h : K (a.put dst (.agg vs.toArray)) w) : if Region.wanted ⟨dst, .load ty x, rt, pos, af, none⟩ (yielded ops a.tmps) = true then Oper.wp P ⟨dst, .load ty x, rt, pos, af, none⟩ a w K Q else E := by
  obtain ⟨d, hu, hd, hn⟩ := hn
  exact step_of rfl (a_loads hS ty x rfl hu hd n hn hx hv h)
end
theorem Sx.le {m m' : Mem} {bs : List (Nat × List Value)} {w : World} (h : m.Le m') (k : Sx m' bs w) : Sx m bs w := ⟨fun a v hv => k.1 a v (h a v hv), k.2⟩
theorem one_u8 {m : Mem} {b : Nat} {c : Int} (h : ∀ j v, [Value.int .u8 c][j]? = some v → m ⟨b, j, none⟩ = some v) (hc : InK .u8 c) : bytesL.rd m [.slice (some ⟨b, 0, none⟩) 1 1] [c] := by
  refine ⟨_, 1, rfl, Nat.le_refl _, by simp [maxLen], by simp [Lay.int, kBytes], fun _ => ⟨b, 0, rfl, fun i x hx => ?_⟩⟩
  cases i with
  | zero =>
    cases hx
    refine ⟨[.int .u8 c], ⟨rfl, hc⟩, fun j v hj => ?_⟩
    rw [show (0 : Nat) + 0 * (Lay.int .u8).n + j = j by simp]
    exact h j v hj
  | succ i => cases hx
theorem inK_one : InK .u8 1 := by simp [InK, IntKind.min, IntKind.max, IntKind.signed, IntKind.bits]
def lv1 : Dk := writeD (newD 2) 1 (List.replicate 32 7)
def lv2 : Dk := flushD lv1
def lv3 : Dk := writeD lv2 1 (List.replicate 32 9)
def lv4 : Dk := crashD lv3 [1]
theorem lv_e1 : newE 2 = 0 := by decide +kernel
theorem lv_e2 : writeE (newD 2) 1 (List.replicate 32 7) = 0 := by decide +kernel
theorem lv_e3 : flushE lv1 = 0 := by decide +kernel
theorem lv_e4 : writeE lv2 1 (List.replicate 32 9) = 0 := by decide +kernel
theorem lv_e5 : checkE lv3 = 0 := by decide +kernel
theorem lv_e6 : readE lv4 1 = 0 := by decide +kernel
theorem lv_b : readB lv4 1 = 9 :: 7 :: List.replicate 30 7 := by decide +kernel
set_option maxRecDepth 100000 in
set_option maxHeartbeats 4000000 in
theorem live_c (m : Mem) (w : World) (hm : m.In w) :
    Calls Try.prog 33 #[] w (Ret w m fun v _ => v = .bool true) := by
  have hS := St.start hm
  have i2 : InK .i64 2 := inK64 (by decide) (by decide)
  have h7 : InK .u8 7 := by simp [InK, IntKind.min, IntKind.max, IntKind.signed, IntKind.bits]
  have h9 : InK .u8 9 := by simp [InK, IntKind.min, IntKind.max, IntKind.signed, IntKind.bits]
  have I1 := Lib.hid (inK64 (x := 1) (by decide) (by decide))
  have I7 := Lib.hid h7
  have I9 := Lib.hid h9
  clear i2 h7 h9
  go_enter Try.func33, Try.ntmps33
  go_wp2_with (first 
    | ((with_reducible apply l_alloc (ty := 44) (dst := some 1) hS (.agg #[.slice none 0 0, .slice none 0 0, .int .i64 0, .bool false]) [.slice none 0 0, .slice none 0 0, .int .i64 0, .bool false]); (· kernel_rfl); (· rfl); clear hS; intro w1 b1 hS)
    | ((with_reducible apply l_load hS); (· (first | exact Try.underlying5)); (· exact rfl); (· exact rfl); (· (first | (apply Find.box; (· (repeat constructor)); rfl) | exact Find.mem (by assumption) | (apply Find.row; (· (repeat constructor)); assumption))))
    | ((with_reducible apply g_load hS); (· (first | exact Try.underlying5)); (· exact rfl); (· (first | rfl | (go_simp; done))); (· exact rfl); (· (first | (apply Find.box; (· (repeat constructor)); rfl) | exact Find.mem (by assumption) | (apply Find.row; (· (repeat constructor)); assumption))))
    | ((with_reducible apply l_loads hS); (· (first | exact rowT44)); (· exact rfl); (· (first | (apply Finds.box; (· (repeat constructor)); (· (repeat constructor)); done) | (refine Finds.mem2 (by assumption) ?_; first | rfl | assumption | (simp; done)) | (apply Finds.row; (· (repeat constructor)); (· assumption); (· rfl)))))
    | ((with_reducible apply g_loads hS); (· (first | exact rowT44)); (· (first | rfl | (go_simp; done))); (· exact rfl); (· (first | (apply Finds.box; (· (repeat constructor)); (· (repeat constructor)); done) | (refine Finds.mem2 (by assumption) ?_; first | rfl | assumption | (simp; done)) | (apply Finds.row; (· (repeat constructor)); (· assumption); (· rfl)))))
    | ((with_reducible apply l_stores hS); (· (first | exact rowT44)); (· exact rfl); (· exact rfl); (· exact rfl); (· (first | assumption | (simp [Value.oneCell']; done))); (· (repeat constructor)); (· (repeat constructor)); (· (repeat constructor)); clear hS; intro ws hS)
    | (go_at_call 34; refine (new_c _ _ hS.inw 2).mono ?_; rintro e' w10 ⟨v10, m1, rfl, ⟨cs1, rfl, hr1⟩, hk⟩; replace hS := hS.call hk; clear hk; have R1 := Lib.hid hr1; have hone := dkL.one hr1; obtain ⟨x0, x1, rfl, _⟩ := dkL_open hr1; rw [lv_e1]; clear hr1))
  replace hS := hS.drew
  refine startL (S := Sx _ []) (by kernel_rfl) hS.sx0 (fun _ _ _ _ => trivial) (fun hHeld => ?_)
  refine wpAnyH_ready (rs := [0, 1]) (by kernel_rfl) (by simp) ?_
  refine consL 0 rfl (fun K hK => ?_) (consL 1 rfl (fun K hK => ?_) AllReadyH.nil)
  rotate_right
  focus
    rw [if_pos (by rfl)]; go_simp; refine (sector_c _ _ hS.inw 7 I7.out).mono ?_; rintro e' w15 ⟨v15, m2, rfl, hr2, hk⟩; replace hS := hS.call hk; have hle := hk.le; clear hk; have R2 := Lib.hid hr2; clear hr2; go_wp2_with fail
    refine hK.out _ _ (by first | exact hS.sx0 | exact Sx.le (by assumption) hS.sx0) (fun hHeld => ?_)
    clear hK K
    try simp only [Act.put, nz1, nz2, nz3]
    refine wpAnyH_ready (rs := [0]) (by kernel_rfl) (by simp) ?_
    refine consL 0 rfl (fun K hK => ?_) AllReadyH.nil
    (with_reducible apply s_loads hS); (· exact rowT44); (· exact rfl); (· (first | (apply Finds.box; (· (repeat constructor)); (· (repeat constructor)); done) | (refine Finds.mem2 (by assumption) ?_; first | rfl | assumption | (simp; done)) | (apply Finds.row; (· (repeat constructor)); (· assumption); (· rfl))))
    refine hK.out _ _ (by first | exact hS.sx0 | exact Sx.le (by assumption) hS.sx0) (fun hHeld => ?_)
    clear hK K
    try simp only [Act.put, nz1, nz2, nz3]
    refine wpAnyH_ready (rs := [2]) (by kernel_rfl) (by simp) ?_
    refine consL 2 rfl (fun K hK => ?_) AllReadyH.nil
    rw [if_pos (by rfl)]; go_simp; refine (write_c _ _ hS.inw _ _ (dkL.mono hle R1.out) 1 I1.out _ _ R2.out).mono ?_; rintro e' w16 ⟨v16, m3, rfl, ⟨cs3, rfl, hr3⟩, hk⟩; replace hS := hS.call hk; have hle3 := hle.trans hk.le; clear hk hle; have R3 : Hid (dkL.rd m3 cs3 lv1) := hr3; rw [lv_e2]; obtain ⟨x2, x3, rfl, _⟩ := dkL_open R3.out; have hone3 := dkL.one R3.out; clear hr3; go_wp2_with fail
    refine hK.out _ _ (by first | exact hS.sx0 | exact Sx.le (by assumption) hS.sx0) (fun hHeld => ?_)
    clear hK K
    try simp only [Act.put, nz1, nz2, nz3]
    focus (refine takeN 3 (v := ?_) rfl (by kernel_rfl) ?_ ?_; rotate_left; focus (intro w hSw; clear hSw; go_simp; try with_reducible rfl))
    try simp only [Act.put, nz1, nz2, nz3]
    focus (refine takeN 4 (v := ?_) rfl (by kernel_rfl) ?_ ?_; rotate_left; focus (intro w hSw; clear hSw; go_simp; try with_reducible rfl))
    try simp only [Act.put, nz1, nz2, nz3]
    focus (refine takeN 5 (v := ?_) rfl (by kernel_rfl) ?_ ?_; rotate_left; focus (intro w hSw; clear hSw; go_simp; try with_reducible rfl))
    try simp only [Act.put, nz1, nz2, nz3]
    refine wpAnyH_ready (rs := [6]) (by kernel_rfl) (by simp) ?_
    refine consL 6 rfl (fun K hK => ?_) AllReadyH.nil
    (with_reducible apply s_stores hS); (· exact rowT44); (· exact rfl); (· exact rfl); (· exact rfl); (· (first | assumption | (simp [Value.oneCell']; done))); (· (repeat constructor)); (· (repeat constructor)); (· (repeat constructor)); clear hS; intro ws hS
    refine hK.out _ _ (by first | exact hS.sx0 | exact Sx.le (by assumption) hS.sx0) (fun hHeld => ?_)
    clear hK K
    try simp only [Act.put, nz1, nz2, nz3]
    focus (refine takeN 7 (v := ?_) rfl (by kernel_rfl) ?_ ?_; rotate_left; focus (intro w hSw; clear hSw; go_simp; try with_reducible rfl))
    try simp only [Act.put, nz1, nz2, nz3]
    refine wpAnyH_done (by kernel_rfl) ?_ _
    refine NoPanic.normal ?_
  rotate_right
  focus
    (with_reducible apply s_loads hS); (· exact rowT44); (· exact rfl); (· (first | (apply Finds.box; (· (repeat constructor)); (· (repeat constructor)); done) | (refine Finds.mem2 (by assumption) ?_; first | rfl | assumption | (simp; done)) | (apply Finds.row; (· (repeat constructor)); (· assumption); (· rfl))))
    refine hK.out _ _ (by first | exact hS.sx0 | exact Sx.le (by assumption) hS.sx0) (fun hHeld => ?_)
    clear hK K
    try simp only [Act.put, nz1, nz2, nz3]
    refine wpAnyH_ready (rs := [1]) (by kernel_rfl) (by simp) ?_
    refine consL 1 rfl (fun K hK => ?_) AllReadyH.nil
    rw [if_pos (by rfl)]; go_simp; refine (sector_c _ _ hS.inw 7 I7.out).mono ?_; rintro e' w15 ⟨v15, m2, rfl, hr2, hk⟩; replace hS := hS.call hk; have hle := hk.le; clear hk; have R2 := Lib.hid hr2; clear hr2; go_wp2_with fail
    refine hK.out _ _ (by first | exact hS.sx0 | exact Sx.le (by assumption) hS.sx0) (fun hHeld => ?_)
    clear hK K
    try simp only [Act.put, nz1, nz2, nz3]
    refine wpAnyH_ready (rs := [2]) (by kernel_rfl) (by simp) ?_
    refine consL 2 rfl (fun K hK => ?_) AllReadyH.nil
    rw [if_pos (by rfl)]; go_simp; refine (write_c _ _ hS.inw _ _ (dkL.mono hle R1.out) 1 I1.out _ _ R2.out).mono ?_; rintro e' w16 ⟨v16, m3, rfl, ⟨cs3, rfl, hr3⟩, hk⟩; replace hS := hS.call hk; have hle3 := hle.trans hk.le; clear hk hle; have R3 : Hid (dkL.rd m3 cs3 lv1) := hr3; rw [lv_e2]; obtain ⟨x2, x3, rfl, _⟩ := dkL_open R3.out; have hone3 := dkL.one R3.out; clear hr3; go_wp2_with fail
    refine hK.out _ _ (by first | exact hS.sx0 | exact Sx.le (by assumption) hS.sx0) (fun hHeld => ?_)
    clear hK K
    try simp only [Act.put, nz1, nz2, nz3]
    focus (refine takeN 3 (v := ?_) rfl (by kernel_rfl) ?_ ?_; rotate_left; focus (intro w hSw; clear hSw; go_simp; try with_reducible rfl))
    try simp only [Act.put, nz1, nz2, nz3]
    focus (refine takeN 4 (v := ?_) rfl (by kernel_rfl) ?_ ?_; rotate_left; focus (intro w hSw; clear hSw; go_simp; try with_reducible rfl))
    try simp only [Act.put, nz1, nz2, nz3]
    focus (refine takeN 5 (v := ?_) rfl (by kernel_rfl) ?_ ?_; rotate_left; focus (intro w hSw; clear hSw; go_simp; try with_reducible rfl))
    try simp only [Act.put, nz1, nz2, nz3]
    refine wpAnyH_ready (rs := [6]) (by kernel_rfl) (by simp) ?_
    refine consL 6 rfl (fun K hK => ?_) AllReadyH.nil
    (with_reducible apply s_stores hS); (· exact rowT44); (· exact rfl); (· exact rfl); (· exact rfl); (· (first | assumption | (simp [Value.oneCell']; done))); (· (repeat constructor)); (· (repeat constructor)); (· (repeat constructor)); clear hS; intro ws hS
    refine hK.out _ _ (by first | exact hS.sx0 | exact Sx.le (by assumption) hS.sx0) (fun hHeld => ?_)
    clear hK K
    try simp only [Act.put, nz1, nz2, nz3]
    focus (refine takeN 7 (v := ?_) rfl (by kernel_rfl) ?_ ?_; rotate_left; focus (intro w hSw; clear hSw; go_simp; try with_reducible rfl))
    try simp only [Act.put, nz1, nz2, nz3]
    refine wpAnyH_done (by kernel_rfl) ?_ _
    refine NoPanic.normal ?_
  all_goals
    clear hone hle3
    go_wp2_with (first 
    | ((with_reducible apply l_alloc (ty := 44) (dst := some 1) hS (.agg #[.slice none 0 0, .slice none 0 0, .int .i64 0, .bool false]) [.slice none 0 0, .slice none 0 0, .int .i64 0, .bool false]); (· kernel_rfl); (· rfl); clear hS; intro w1 b1 hS)
    | ((with_reducible apply l_load hS); (· (first | exact Try.underlying5)); (· exact rfl); (· exact rfl); (· (first | (apply Find.box; (· (repeat constructor)); rfl) | exact Find.mem (by assumption) | (apply Find.row; (· (repeat constructor)); assumption))))
    | ((with_reducible apply g_load hS); (· (first | exact Try.underlying5)); (· exact rfl); (· (first | rfl | (go_simp; done))); (· exact rfl); (· (first | (apply Find.box; (· (repeat constructor)); rfl) | exact Find.mem (by assumption) | (apply Find.row; (· (repeat constructor)); assumption))))
    | ((with_reducible apply l_loads hS); (· (first | exact rowT44)); (· exact rfl); (· (first | (apply Finds.box; (· (repeat constructor)); (· (repeat constructor)); done) | (refine Finds.mem2 (by assumption) ?_; first | rfl | assumption | (simp; done)) | (apply Finds.row; (· (repeat constructor)); (· assumption); (· rfl)))))
    | ((with_reducible apply g_loads hS); (· (first | exact rowT44)); (· (first | rfl | (go_simp; done))); (· exact rfl); (· (first | (apply Finds.box; (· (repeat constructor)); (· (repeat constructor)); done) | (refine Finds.mem2 (by assumption) ?_; first | rfl | assumption | (simp; done)) | (apply Finds.row; (· (repeat constructor)); (· assumption); (· rfl)))))
    | ((with_reducible apply l_stores hS); (· (first | exact rowT44)); (· exact rfl); (· exact rfl); (· exact rfl); (· (first | assumption | (simp [Value.oneCell']; done))); (· (repeat constructor)); (· (repeat constructor)); (· (repeat constructor)); clear hS; intro ws hS)
      | (go_at_call 37; refine (flush_c _ _ hS.inw _ _ R3.out).mono ?_; rintro e' w21 ⟨v21, m4, rfl, ⟨cs4, rfl, hr4⟩, hk⟩; replace hS := hS.call hk; clear hk hone3; have R4 : Hid (dkL.rd m4 cs4 lv2) := hr4; rw [lv_e3]; obtain ⟨x4, x5, rfl, _⟩ := dkL_open R4.out; have hone4 := dkL.one R4.out; clear hr4))
    replace hS := hS.drew
    refine startL (S := Sx _ []) (by kernel_rfl) hS.sx0 (fun _ _ _ _ => trivial) (fun hHeld => ?_)
    refine wpAnyH_ready (rs := [0, 1]) (by kernel_rfl) (by simp) ?_
    refine consL 0 rfl (fun K hK => ?_) (consL 1 rfl (fun K hK => ?_) AllReadyH.nil)
    rotate_right
    focus
      rw [if_pos (by rfl)]; go_simp; refine (sector_c _ _ hS.inw 9 I9.out).mono ?_; rintro e' w26 ⟨v26, m5, rfl, hr5, hk⟩; replace hS := hS.call hk; have hle5 := hk.le; clear hk; have R5 := Lib.hid hr5; clear hr5; go_wp2_with fail
      refine hK.out _ _ (by first | exact hS.sx0 | exact Sx.le (by assumption) hS.sx0) (fun hHeld => ?_)
      clear hK K
      try simp only [Act.put, nz1, nz2, nz3]
      refine wpAnyH_ready (rs := [0]) (by kernel_rfl) (by simp) ?_
      refine consL 0 rfl (fun K hK => ?_) AllReadyH.nil
      (with_reducible apply s_loads hS); (· exact rowT44); (· exact rfl); (· (first | (apply Finds.box; (· (repeat constructor)); (· (repeat constructor)); done) | (refine Finds.mem2 (by assumption) ?_; first | rfl | assumption | (simp; done)) | (apply Finds.row; (· (repeat constructor)); (· assumption); (· rfl))))
      refine hK.out _ _ (by first | exact hS.sx0 | exact Sx.le (by assumption) hS.sx0) (fun hHeld => ?_)
      clear hK K
      try simp only [Act.put, nz1, nz2, nz3]
      refine wpAnyH_ready (rs := [2]) (by kernel_rfl) (by simp) ?_
      refine consL 2 rfl (fun K hK => ?_) AllReadyH.nil
      rw [if_pos (by rfl)]; go_simp; refine (write_c _ _ hS.inw _ _ (dkL.mono hle5 R4.out) 1 I1.out _ _ R5.out).mono ?_; rintro e' w27 ⟨v27, m6, rfl, ⟨cs6, rfl, hr6⟩, hk⟩; replace hS := hS.call hk; have hle6 := hle5.trans hk.le; clear hk hle5; have R6 : Hid (dkL.rd m6 cs6 lv3) := hr6; rw [lv_e4]; obtain ⟨x6, x7, rfl, _⟩ := dkL_open R6.out; have hone6 := dkL.one R6.out; clear hr6; go_wp2_with fail
      refine hK.out _ _ (by first | exact hS.sx0 | exact Sx.le (by assumption) hS.sx0) (fun hHeld => ?_)
      clear hK K
      try simp only [Act.put, nz1, nz2, nz3]
      focus (refine takeN 3 (v := ?_) rfl (by kernel_rfl) ?_ ?_; rotate_left; focus (intro w hSw; clear hSw; go_simp; try with_reducible rfl))
      try simp only [Act.put, nz1, nz2, nz3]
      focus (refine takeN 4 (v := ?_) rfl (by kernel_rfl) ?_ ?_; rotate_left; focus (intro w hSw; clear hSw; go_simp; try with_reducible rfl))
      try simp only [Act.put, nz1, nz2, nz3]
      focus (refine takeN 5 (v := ?_) rfl (by kernel_rfl) ?_ ?_; rotate_left; focus (intro w hSw; clear hSw; go_simp; try with_reducible rfl))
      try simp only [Act.put, nz1, nz2, nz3]
      refine wpAnyH_ready (rs := [6]) (by kernel_rfl) (by simp) ?_
      refine consL 6 rfl (fun K hK => ?_) AllReadyH.nil
      (with_reducible apply s_stores hS); (· exact rowT44); (· exact rfl); (· exact rfl); (· exact rfl); (· (first | assumption | (simp [Value.oneCell']; done))); (· (repeat constructor)); (· (repeat constructor)); (· (repeat constructor)); clear hS; intro ws hS
      refine hK.out _ _ (by first | exact hS.sx0 | exact Sx.le (by assumption) hS.sx0) (fun hHeld => ?_)
      clear hK K
      try simp only [Act.put, nz1, nz2, nz3]
      focus (refine takeN 7 (v := ?_) rfl (by kernel_rfl) ?_ ?_; rotate_left; focus (intro w hSw; clear hSw; go_simp; try with_reducible rfl))
      try simp only [Act.put, nz1, nz2, nz3]
      refine wpAnyH_done (by kernel_rfl) ?_ _
      refine NoPanic.normal ?_
    rotate_right
    focus
      (with_reducible apply s_loads hS); (· exact rowT44); (· exact rfl); (· (first | (apply Finds.box; (· (repeat constructor)); (· (repeat constructor)); done) | (refine Finds.mem2 (by assumption) ?_; first | rfl | assumption | (simp; done)) | (apply Finds.row; (· (repeat constructor)); (· assumption); (· rfl))))
      refine hK.out _ _ (by first | exact hS.sx0 | exact Sx.le (by assumption) hS.sx0) (fun hHeld => ?_)
      clear hK K
      try simp only [Act.put, nz1, nz2, nz3]
      refine wpAnyH_ready (rs := [1]) (by kernel_rfl) (by simp) ?_
      refine consL 1 rfl (fun K hK => ?_) AllReadyH.nil
      rw [if_pos (by rfl)]; go_simp; refine (sector_c _ _ hS.inw 9 I9.out).mono ?_; rintro e' w26 ⟨v26, m5, rfl, hr5, hk⟩; replace hS := hS.call hk; have hle5 := hk.le; clear hk; have R5 := Lib.hid hr5; clear hr5; go_wp2_with fail
      refine hK.out _ _ (by first | exact hS.sx0 | exact Sx.le (by assumption) hS.sx0) (fun hHeld => ?_)
      clear hK K
      try simp only [Act.put, nz1, nz2, nz3]
      refine wpAnyH_ready (rs := [2]) (by kernel_rfl) (by simp) ?_
      refine consL 2 rfl (fun K hK => ?_) AllReadyH.nil
      rw [if_pos (by rfl)]; go_simp; refine (write_c _ _ hS.inw _ _ (dkL.mono hle5 R4.out) 1 I1.out _ _ R5.out).mono ?_; rintro e' w27 ⟨v27, m6, rfl, ⟨cs6, rfl, hr6⟩, hk⟩; replace hS := hS.call hk; have hle6 := hle5.trans hk.le; clear hk hle5; have R6 : Hid (dkL.rd m6 cs6 lv3) := hr6; rw [lv_e4]; obtain ⟨x6, x7, rfl, _⟩ := dkL_open R6.out; have hone6 := dkL.one R6.out; clear hr6; go_wp2_with fail
      refine hK.out _ _ (by first | exact hS.sx0 | exact Sx.le (by assumption) hS.sx0) (fun hHeld => ?_)
      clear hK K
      try simp only [Act.put, nz1, nz2, nz3]
      focus (refine takeN 3 (v := ?_) rfl (by kernel_rfl) ?_ ?_; rotate_left; focus (intro w hSw; clear hSw; go_simp; try with_reducible rfl))
      try simp only [Act.put, nz1, nz2, nz3]
      focus (refine takeN 4 (v := ?_) rfl (by kernel_rfl) ?_ ?_; rotate_left; focus (intro w hSw; clear hSw; go_simp; try with_reducible rfl))
      try simp only [Act.put, nz1, nz2, nz3]
      focus (refine takeN 5 (v := ?_) rfl (by kernel_rfl) ?_ ?_; rotate_left; focus (intro w hSw; clear hSw; go_simp; try with_reducible rfl))
      try simp only [Act.put, nz1, nz2, nz3]
      refine wpAnyH_ready (rs := [6]) (by kernel_rfl) (by simp) ?_
      refine consL 6 rfl (fun K hK => ?_) AllReadyH.nil
      (with_reducible apply s_stores hS); (· exact rowT44); (· exact rfl); (· exact rfl); (· exact rfl); (· (first | assumption | (simp [Value.oneCell']; done))); (· (repeat constructor)); (· (repeat constructor)); (· (repeat constructor)); clear hS; intro ws hS
      refine hK.out _ _ (by first | exact hS.sx0 | exact Sx.le (by assumption) hS.sx0) (fun hHeld => ?_)
      clear hK K
      try simp only [Act.put, nz1, nz2, nz3]
      focus (refine takeN 7 (v := ?_) rfl (by kernel_rfl) ?_ ?_; rotate_left; focus (intro w hSw; clear hSw; go_simp; try with_reducible rfl))
      try simp only [Act.put, nz1, nz2, nz3]
      refine wpAnyH_done (by kernel_rfl) ?_ _
      refine NoPanic.normal ?_
  all_goals
    clear hone4 hle6
    go_wp2_with (first 
    | ((with_reducible apply l_alloc (ty := 44) (dst := some 1) hS (.agg #[.slice none 0 0, .slice none 0 0, .int .i64 0, .bool false]) [.slice none 0 0, .slice none 0 0, .int .i64 0, .bool false]); (· kernel_rfl); (· rfl); clear hS; intro w1 b1 hS)
    | ((with_reducible apply l_load hS); (· (first | exact Try.underlying5)); (· exact rfl); (· exact rfl); (· (first | (apply Find.box; (· (repeat constructor)); rfl) | exact Find.mem (by assumption) | (apply Find.row; (· (repeat constructor)); assumption))))
    | ((with_reducible apply g_load hS); (· (first | exact Try.underlying5)); (· exact rfl); (· (first | rfl | (go_simp; done))); (· exact rfl); (· (first | (apply Find.box; (· (repeat constructor)); rfl) | exact Find.mem (by assumption) | (apply Find.row; (· (repeat constructor)); assumption))))
    | ((with_reducible apply l_loads hS); (· (first | exact rowT44)); (· exact rfl); (· (first | (apply Finds.box; (· (repeat constructor)); (· (repeat constructor)); done) | (refine Finds.mem2 (by assumption) ?_; first | rfl | assumption | (simp; done)) | (apply Finds.row; (· (repeat constructor)); (· assumption); (· rfl)))))
    | ((with_reducible apply g_loads hS); (· (first | exact rowT44)); (· (first | rfl | (go_simp; done))); (· exact rfl); (· (first | (apply Finds.box; (· (repeat constructor)); (· (repeat constructor)); done) | (refine Finds.mem2 (by assumption) ?_; first | rfl | assumption | (simp; done)) | (apply Finds.row; (· (repeat constructor)); (· assumption); (· rfl)))))
    | ((with_reducible apply l_stores hS); (· (first | exact rowT44)); (· exact rfl); (· exact rfl); (· exact rfl); (· (first | assumption | (simp [Value.oneCell']; done))); (· (repeat constructor)); (· (repeat constructor)); (· (repeat constructor)); clear hS; intro ws hS)
      | ((with_reducible apply l_lit el_u8 hS (cs := [.int .u8 1])); (· decide); (· decide); (· kernel_rfl); clear hS; intro w32 b32 hS; obtain ⟨m7, hS7, hle7, hb7⟩ := hS.settleBox 0 rfl; have hrd7 := one_u8 hb7 inK_one; clear hb7; replace hS := hS7; simp only [List.eraseIdx_cons_zero] at hS; have K7 := Lib.hid hrd7; have R7 := Lib.hid (dkL.mono hle7 R6.out); clear hS7 hle7 hrd7)
      | (go_at_call 38; refine (crash_c _ _ hS.inw _ _ R7.out _ _ K7.out).mono ?_; rintro e' w33 ⟨v33, m8, rfl, ⟨cs8, rfl, hr8⟩, hk⟩; replace hS := hS.call hk; clear hk hone6; have R8 : Hid (dkL.rd m8 cs8 lv4) := hr8; rw [lv_e5]; obtain ⟨x8, x9, rfl, _⟩ := dkL_open R8.out; have hone8 := dkL.one R8.out; clear hr8)
      | (go_at_call 39; refine (read_c _ _ hS.inw _ _ R8.out 1).mono ?_; rintro e' w38 ⟨v38, m9, rfl, ⟨vb, rfl, hr9⟩, hk⟩; replace hS := hS.call hk; clear hk hone8; rw [lv_e6]; rw [lv_b] at hr9; obtain ⟨pb, cb, rfl, _, _, _, hrow⟩ := Lay.list_open hr9; obtain ⟨bb, ob, z0, z1⟩ := hrow (by simp); subst z0; obtain ⟨ca, ⟨rfl, _⟩, za⟩ := z1 0 9 rfl; obtain ⟨cc, ⟨rfl, _⟩, zc⟩ := z1 1 7 rfl; have g0 := za 0 _ rfl; have g1 := zc 0 _ rfl; clear z1 za zc hrow hr9))
  all_goals
    go_ret
    exact ⟨_, _, rfl, rfl, hS.done⟩
end Go.Proofs.Ytnmgiiaejpaeeaa
/- How the arguments of a row are opened: slices of integers. -/
namespace Go.Proofs.Ytnmgiiaejpaeeaa
set_option linter.unusedVariables false
set_option linter.unusedSimpArgs false
open Go.RowKit Go.ChangeShapes Go.WideShapes
theorem rd_opened {k : IntKind} {W : World} {x : Addr} {len cap : Nat} {zs : List Int} (hl : len ≤ cap) (hm : cap ≤ maxLen) (hz : zs.length = cap)
    (hc : ∀ i, i < zs.length → W.cell? (x.add i) = some (.int k (zs.getD i 0))) (hw : ∀ n ∈ zs, (Lit.int k n).wf = true) :
    ∃ xs : List Int, xs.length = len ∧ len ≤ cap ∧ cap ≤ maxLen ∧ Rd k W (some x) xs ∧ ∀ x ∈ xs, (Lit.int k x).wf = true := by
  refine ⟨zs.take len, by simp; omega, hl, hm, fun h0 => ?_, fun y hy => hw y (List.mem_of_mem_take hy)⟩
  simp at h0
  obtain ⟨b, o, s⟩ := x
  obtain rfl : s = none := by simpa [Addr.add] using World.cell?_spot (hc 0 (by omega))
  refine ⟨b, o, rfl, fun i hi => ?_⟩
  simp at hi
  rw [← Addr.add_lit, hc i (by omega)]
  simp [List.getD, List.getElem?_take, show i < len by omega]
theorem sized_rd {H : Type} {enc : TypeId × Value → H} {P : Program} {W : World} {base : Nat} {spare : Nat → Bool} {held : Bool} {t e : TypeId} {k : IntKind} {a : Option Addr} {len cap : Nat} {d : DataW H} {ps : List MemPlace} {ts : List TypeId} {ds : List (DataW H)} {j : Nat}
    (hsz : (DataW.weightsEach P ts ds).all (· ≤ reachBytes) = true) (ht : ts[j]? = some t) (hd : ds[j]? = some d) (hu : P.underlying t = some (.slice e)) (he : P.underlying e = some (.int k)) (hc : P.cellsOf e = 1) {B : Nat} (hB : P.bytesOf e = B)
    (h : DataW.Trod enc P W base spare held t (.slice a len cap) d ps) : len * B ≤ 140737488351232 := by
  obtain ⟨fuel, hf⟩ := h
  rcases open_ints hu he hc hf with ⟨hcs, _⟩ | ⟨x, l, c, zs, hcs, _, hl, _, hz, hx, _, _⟩
  · simp [Value.cells] at hcs
    obtain ⟨rfl, rfl, rfl⟩ := hcs
    simp
  · simp [Value.cells] at hcs
    obtain ⟨rfl, rfl, rfl⟩ := hcs
    obtain ⟨rfl, _⟩ := Prod.mk.inj hx
    have z := sized_slice hsz ht hd hu
    rw [hB] at z
    have h2 : len ≤ zs.length := by rw [hz]; split <;> omega
    have h1 : (lits (H := H) k (zs.take len)).length + (lits (H := H) k (zs.drop len)).length = zs.length := by simp [lits]; omega
    rw [h1] at z
    exact Nat.le_trans (Nat.mul_le_mul_right _ h2) z
theorem isB_of_wf {xs : List Int} (h : ∀ x ∈ xs, (Lit.int .u8 x).wf = true) : IsB xs := fun x hx => by
  have := h x hx
  simp [Lit.wf, IntKind.min, IntKind.max, IntKind.signed, IntKind.bits] at this
  omega
end Go.Proofs.Ytnmgiiaejpaeeaa
/- Plain laws of disks, and the arguments of the laws' walks. -/
namespace Go.Proofs.Ytnmgiiaejpaeeaa
set_option linter.unusedVariables false
set_option linter.unusedSimpArgs false
open Go.RowKit Go.Shelf
theorem l_unwanted {P : Program} {ops : Array Oper} {Q : Exit → Act → World → Prop} {a : Act} {w : World} {rest : List Oper} {dst : Option Tmp} {op : Op} {rt : TypeId} {pos : String} {af : Array Edge} {g : Nat × Bool}
    (hw : Region.wanted ⟨dst, op, rt, pos, af, some g⟩ (yielded ops a.tmps) = false) (h : wpList P ops Q rest (a.put dst undef) w) : wpList P ops Q (⟨dst, op, rt, pos, af, some g⟩ :: rest) a w := wpList_skip hw h
/-- A disk lies at v. -/
def RdArg (w : World) (v : Value) (d : Dk) : Prop := ∃ cs, v = .agg cs.toArray ∧ dkL.rd (World.mem w) cs d
theorem bytes_arg {w : World} {p : Option Addr} {c : Nat} {xs : List Int} (hr : Rd .u8 w p xs) (hw : ∀ x ∈ xs, (Lit.int .u8 x).wf = true) (hc : xs.length ≤ c) (hm : c ≤ maxLen) (hy : xs.length * 1 ≤ 140737488351232) : bytesL.rd (World.mem w) [.slice p xs.length c] xs :=
  ⟨p, c, rfl, hc, hm, by simp [Lay.int, kBytes]; omega, rowInt (isB_inK (isB_of_wf hw)) fun h0 => hr h0⟩
theorem settled_length {d : Dk} (h : checkOK d) (many : Nat → Nat) (hm : ∀ i, many i ≤ 32) : (settleAt many 0 d.wet d.dry).length = d.dry.length :=
  settleAt_length many d.dry.length hm d.wet 0 d.dry rfl fun x hx => (placed_of_ok h x hx).2
theorem alive_zero {d : Dk} (h : aliveE d = 0) : checkOK d ∧ d.dead = false := by
  unfold aliveE at h
  split at h
  · rename_i hk
    split at h
    · cases h
    · exact ⟨hk, by simpa using ‹¬ d.dead = true›⟩
  · cases h
theorem alive_of_ok {d : Dk} (h : checkOK d) (hd : d.dead = false) : aliveE d = 0 := by
  unfold aliveE; rw [if_pos h, hd]; rfl
theorem ok_settled {d : Dk} (h : checkOK d) (many : Nat → Nat) (hm : ∀ i, many i ≤ 32) (f : Int) (b : Bool) (h1 : -1 ≤ f) (h2 : f ≤ 1073741824) : checkOK ⟨settleAt many 0 d.wet d.dry, [], f, b⟩ := by
  have hl := settled_length h many hm
  obtain ⟨k1, k2, k3, k4, k5, k6, k7⟩ := h
  exact ⟨by rw [hl]; exact k1, by rw [hl]; exact k2, by rw [hl]; exact k3, by simp, rfl, h1, h2⟩
theorem crash_ok {d : Dk} (h : checkOK d) (keep : List Int) : crashD d keep = ⟨settleAt (keepN keep) 0 d.wet d.dry, [], -1, false⟩ := if_pos h
theorem crash_check {d : Dk} (h : checkOK d) (keep : List Int) : checkOK (crashD d keep) := by
  rw [crash_ok h]; exact ok_settled h _ (keepN_le keep) _ _ (by omega) (by omega)
theorem crash_twice {d : Dk} (h : checkOK d) (k k' : List Int) : crashD (crashD d k) k' = crashD d k := by
  rw [crash_ok (crash_check h k), crash_ok h]; rfl
theorem flush_zero {d : Dk} (h : flushE d = 0) : checkOK d ∧ d.dead = false ∧ d.fuse ≠ 0 ∧ flushD d = ⟨settleAt (fun _ => 32) 0 d.wet d.dry, [], (if d.fuse = -1 then -1 else d.fuse - 1), false⟩ := by
  unfold flushE at h
  split at h
  · rename_i ha
    obtain ⟨hk, hd⟩ := alive_zero ha
    have hf : d.fuse ≠ 0 := by
      intro e
      unfold deedE at h
      rw [if_pos e] at h
      cases h
    refine ⟨hk, hd, hf, ?_⟩
    unfold flushD deedD
    rw [if_pos ha, if_neg hf, hd]
    rfl
  · contradiction
theorem flush_ok {d : Dk} (h : flushE d = 0) : checkOK (flushD d) ∧ (flushD d).dead = false ∧ (flushD d).wet = [] := by
  obtain ⟨hk, hd, hf, e⟩ := flush_zero h
  rw [e]
  refine ⟨ok_settled hk _ (fun _ => Nat.le_refl _) _ _ ?_ ?_, rfl, rfl⟩
  all_goals
    have := hk.2.2.2.2.2
    split <;> omega
theorem flush_twice {d : Dk} (h : flushE d = 0) : (flushE (flushD d) = 0 ∧ (flushD (flushD d)).dry = (flushD d).dry) ∨ (flushE (flushD d) = 11 ∧ (flushD d).fuse = 0) := by
  obtain ⟨h1, h2, h3⟩ := flush_ok h
  have ha := alive_of_ok h1 h2
  by_cases hf : (flushD d).fuse = 0
  · right
    exact ⟨by unfold flushE deedE; rw [if_pos ha, if_pos hf], hf⟩
  · left
    have he : flushE (flushD d) = 0 := by unfold flushE deedE; rw [if_pos ha, if_neg hf]
    refine ⟨he, ?_⟩
    rw [(flush_zero he).2.2.2, h3]
    rfl
end Go.Proofs.Ytnmgiiaejpaeeaa
/- The rules of the walk with a closed conclusion: the goal is not reckoned out when a rule is tried. -/
namespace Go.Proofs.Ytnmgiiaejpaeeaa
set_option linter.unusedVariables false
set_option linter.unusedSimpArgs false
open Go.RowKit
variable {ops : Array Oper} {P : Program} {X : List Nat} {w0 w : World} {m0 m : Mem} {es : List Ent} {o : Oper} {a : Act} {K : Act → World → Prop} {Q : Exit → Act → World → Prop}
variable {rest : List Oper} {dst : Option Tmp} {rt : TypeId} {pos : String} {af : Array Edge} {E : Prop} {g : Nat × Bool}
inductive Wl (P : Program) (ops : Array Oper) (Q : Exit → Act → World → Prop) (l : List Oper) (a : Act) (w : World) : Prop
  | mk : wpList P ops Q l a w → Wl P ops Q l a w
theorem Wl.out {l : List Oper} (h : Wl P ops Q l a w) : wpList P ops Q l a w := by cases h; assumption
theorem wl_box {ty : TypeId} {y : Operand} (hS : St X w0 m0 w es m) {cs : List Value} {v : Value} (hy : a.eval y = v) (hc : v.cells = cs.toArray) (h : ∀ w' b, St X w0 m0 w' (.box b cs :: es) m → wpList P ops Q rest (a.put dst (.pointer (some ⟨b, 0, none⟩))) w') : Wl P ops Q (⟨dst, .box ty y, rt, pos, af, none⟩ :: rest) a w := ⟨(
  wpList_plain rfl fun K hK => op_box hS ty y rfl cs (by rw [hy]; exact hc) fun w' b hw => hK _ _ (h w' b hw))⟩
theorem wl_alloc {ty : TypeId} (hS : St X w0 m0 w es m) (z : Value) (cs : List Value) (hz : (P.info? ty).bind (·.zero) = some z) (hc : z.cells = cs.toArray) (h : ∀ w' b, St X w0 m0 w' (.box b cs :: es) m → wpList P ops Q rest (a.put dst (.pointer (some ⟨b, 0, none⟩))) w') : Wl P ops Q (⟨dst, .alloc ty, rt, pos, af, none⟩ :: rest) a w := ⟨(
  wpList_plain rfl fun K hK => op_alloc hS ty rfl z hz cs hc fun w' b hw => hK _ _ (h w' b hw))⟩
theorem wl_load {ty : TypeId} {x : Operand} (hS : St X w0 m0 w es m) {d : TypeDesc} (hu : P.underlying ty = some d) (hd : d.isRow = false) {b off : Nat} (hx : a.eval x = .pointer (some ⟨b, off, none⟩)) {v : Value} (hv : Find es m b off v)
    (h : wpList P ops Q rest (a.put dst v) w) : Wl P ops Q (⟨dst, .load ty x, rt, pos, af, none⟩ :: rest) a w := ⟨( wpList_plain rfl fun K hK => a_load hS ty x rfl hu hd hx hv (hK _ _ h))⟩
theorem wg_load {ty : TypeId} {x : Operand} (hS : St X w0 m0 w es m) {d : TypeDesc} (hu : P.underlying ty = some d) (hd : d.isRow = false) (hw : Region.wanted ⟨dst, .load ty x, rt, pos, af, some g⟩ (yielded ops a.tmps) = true) {b off : Nat} (hx : a.eval x = .pointer (some ⟨b, off, none⟩)) {v : Value} (hv : Find es m b off v)
    (h : wpList P ops Q rest (a.put dst v) w) : Wl P ops Q (⟨dst, .load ty x, rt, pos, af, some g⟩ :: rest) a w := ⟨( wpList_step fun K hK => step_guard hw (a_load hS ty x rfl hu hd hx hv (hK _ _ h)))⟩
theorem wl_loads {ty : TypeId} {x : Operand} (hS : St X w0 m0 w es m) {n : Nat} (hn : ∃ d, P.underlying ty = some d ∧ d.isRow = true ∧ (P.info? ty).map (·.size) = some n) {b off : Nat} (hx : a.eval x = .pointer (some ⟨b, off, none⟩)) {vs : List Value} (hv : Finds es m b off n vs)
    (h : wpList P ops Q rest (a.put dst (.agg vs.toArray)) w) : Wl P ops Q (⟨dst, .load ty x, rt, pos, af, none⟩ :: rest) a w := ⟨( by
  obtain ⟨d, hu, hd, hn⟩ := hn
  exact wpList_plain rfl fun K hK => a_loads hS ty x rfl hu hd n hn hx hv (hK _ _ h))⟩
theorem wg_loads {ty : TypeId} {x : Operand} (hS : St X w0 m0 w es m) {n : Nat} (hn : ∃ d, P.underlying ty = some d ∧ d.isRow = true ∧ (P.info? ty).map (·.size) = some n) (hw : Region.wanted ⟨dst, .load ty x, rt, pos, af, some g⟩ (yielded ops a.tmps) = true) {b off : Nat} (hx : a.eval x = .pointer (some ⟨b, off, none⟩)) {vs : List Value} (hv : Finds es m b off n vs)
    (h : wpList P ops Q rest (a.put dst (.agg vs.toArray)) w) : Wl P ops Q (⟨dst, .load ty x, rt, pos, af, some g⟩ :: rest) a w := ⟨( by
  obtain ⟨d, hu, hd, hn⟩ := hn
  exact wpList_step fun K hK => step_guard hw (a_loads hS ty x rfl hu hd n hn hx hv (hK _ _ h)))⟩
theorem wl_store {ty : TypeId} {x y : Operand} (hS : St X w0 m0 w es m) (hn : ∃ d, P.underlying ty = some d ∧ d.isRow = false ∧ (P.info? ty).map (·.size) = some 1) {b off : Nat} (hx : a.eval x = .pointer (some ⟨b, off, none⟩)) {v : Value} (hy : a.eval y = v) (h1 : v.oneCell' = true) {cs cs' : List Value} {es' : List Ent}
    (hM : Ent.box b cs ∈ es) (hs : SetsL cs off [v] cs') (hU : UpdB es b cs cs' es') (h : ∀ w', St X w0 m0 w' es' m → wpList P ops Q rest (a.put dst undef) w') : Wl P ops Q (⟨dst, .store ty x y, rt, pos, af, none⟩ :: rest) a w := ⟨( by
  obtain ⟨d, hu, hd, hn⟩ := hn
  exact wpList_plain rfl fun K hK => a_store hS ty x y rfl hn hx hy h1 hU hs fun w' hw => hK _ _ (h w' hw))⟩
theorem wl_stores {ty : TypeId} {x y : Operand} (hS : St X w0 m0 w es m) {n : Nat} (hn : ∃ d, P.underlying ty = some d ∧ d.isRow = true ∧ (P.info? ty).map (·.size) = some n) {b off : Nat} (hx : a.eval x = .pointer (some ⟨b, off, none⟩)) {vs : List Value} (hy : a.eval y = .agg vs.toArray) (hl : vs.length = n) (h1 : ∀ v ∈ vs, v.oneCell' = true) {cs cs' : List Value} {es' : List Ent}
    (hM : Ent.box b cs ∈ es) (hs : SetsL cs off vs cs') (hU : UpdB es b cs cs' es') (h : ∀ w', St X w0 m0 w' es' m → wpList P ops Q rest (a.put dst undef) w') : Wl P ops Q (⟨dst, .store ty x y, rt, pos, af, none⟩ :: rest) a w := ⟨( by
  obtain ⟨d, hu, hd, hn⟩ := hn
  exact wpList_plain rfl fun K hK => a_stores hS ty x y rfl n hn hx hy hl h1 hU hs fun w' hw => hK _ _ (h w' hw))⟩
theorem wl_append {α : Type} (L : Lay α) {t e : TypeId} {z : Value} (hE : Elem P t e L.n L.bytes z) {s x : Operand} (hS : St X w0 m0 w es m) (hb : 0 < L.bytes) {v xv : Value} {n : Nat} {xs : List Value} {ys : List α} {f : Value → Nat → List Value → List Ent}
    (hs : a.eval s = v) (hi : RowAt es e L.n v n xs f) (hx : a.eval x = xv) (hr : L.list.rd m [xv] ys) (hbytes : (n + ys.length) * L.bytes ≤ 140737488355328)
    (h : ∀ w' q c news, CellsOf L m news ys → St X w0 m0 w' (f (.slice q (n + ys.length) c) (n + ys.length) (xs ++ news)) m → wpList P ops Q rest (a.put dst (.slice q (n + ys.length) c)) w') : Wl P ops Q (⟨dst, .call { callee := .builtin .append, args := #[s, x], argTypes := #[t, t] }, rt, pos, af, none⟩ :: rest) a w := ⟨(
  wpList_plain rfl fun K hK => op_appendL hS hE s x rfl hs hi hx hr hbytes hb fun w' q c news hc hw => hK _ _ (h w' q c news hc hw))⟩
theorem wl_append_nil {α : Type} (L : Lay α) {t e : TypeId} {z : Value} (hE : Elem P t e L.n L.bytes z) {s x : Operand} (hS : St X w0 m0 w es m) (hb : 0 < L.bytes) {xv : Value} {ys : List α}
    (hs : a.eval s = .slice none 0 0) (hx : a.eval x = xv) (hr : L.list.rd m [xv] ys)
    (h : ∀ w' q c news, CellsOf L m news ys → St X w0 m0 w' (.row e L.n (.slice q ys.length c) ys.length news :: es) m → wpList P ops Q rest (a.put dst (.slice q ys.length c)) w') : Wl P ops Q (⟨dst, .call { callee := .builtin .append, args := #[s, x], argTypes := #[t, t] }, rt, pos, af, none⟩ :: rest) a w := ⟨(
  wpList_plain rfl fun K hK => op_appendL_nil hS hE s x rfl hs hx hr hb fun w' q c news hc hw => hK _ _ (h w' q c news hc hw))⟩
theorem wl_appendB {t e : TypeId} {size bytes : Nat} {z : Value} (hE : Elem P t e size bytes z) {s x : Operand} (hS : St X w0 m0 w es m) (hb : 0 < bytes) {v : Value} {n : Nat} {xs : List Value} {b k c : Nat} {cs : List Value} {f : Value → Nat → List Value → List Ent} (hs : a.eval s = v) (hi : RowAt es e size v n xs f)
    (hx : a.eval x = .slice (some ⟨b, 0, none⟩) k c) (hM : Ent.box b cs ∈ es) (hl : cs.length = k * size) (h1 : ∀ u ∈ cs, u.oneCell' = true) (hbytes : (n + k) * bytes ≤ 140737488355328)
    (h : ∀ w' q c, St X w0 m0 w' (f (.slice q (n + k) c) (n + k) (xs ++ cs)) m → wpList P ops Q rest (a.put dst (.slice q (n + k) c)) w') : Wl P ops Q (⟨dst, .call { callee := .builtin .append, args := #[s, x], argTypes := #[t, t] }, rt, pos, af, none⟩ :: rest) a w := ⟨(
  wpList_plain rfl fun K hK => op_appendB hS hE s x rfl hs hi hx hM hl h1 hbytes hb fun w' q c hw => hK _ _ (h w' q c hw))⟩
theorem wl_lit {t e : TypeId} {size bytes : Nat} {z : Value} (hE : Elem P t e size bytes z) {len : Nat} {parts : Array (Nat × Operand)} (hS : St X w0 m0 w es m) {cs : List Value} (hlen : len * size ≤ 16777216) (hpos : len * size ≠ 0)
    (hf : Instr.fill (fun i => some (i * size, size)) ((Array.range (len * size)).map (z.cells[· % z.cells.size]!)) (parts.map fun (i, x) => (i, a.eval x)).toList = some cs.toArray)
    (h : ∀ w' b, St X w0 m0 w' (.box b cs :: es) m → wpList P ops Q rest (a.put dst (.slice (some ⟨b, 0, none⟩) len len)) w') : Wl P ops Q (⟨dst, .buildSlice t len parts, rt, pos, af, none⟩ :: rest) a w := ⟨(
  wpList_plain rfl fun K hK => op_lit hS hE len parts rfl hlen hpos cs hf fun w' b hw => hK _ _ (h w' b hw))⟩
theorem wl_copyR {d s : Operand} {dT sT elem t : TypeId} (hS : St X w0 m0 w es m) (hu : P.underlying dT = some (.slice elem)) (hsz : (P.info? elem).map (·.size) = some 1)
    {k : IntKind} {dry xs : List Int} {g cd off n dLen dCap : Nat} {sv : Value} {f : Value → Nat → List Value → List Ent} (hd : a.eval d = .slice (some ⟨g, off, none⟩) dLen dCap) (hi : RowAt es t 1 (.slice (some ⟨g, 0, none⟩) n cd) n (dry.map (.int k)) f) (hn : dry.length = n)
    (hs : a.eval s = sv) (hr : (Lay.int k).list.rd m [sv] xs) (hx : xs.length ≤ dLen) (hfit : off + dLen ≤ n)
    (h : ∀ w', St X w0 m0 w' (f (.slice (some ⟨g, 0, none⟩) n cd) n ((splice dry off xs).map (.int k))) m → wpList P ops Q rest (a.put dst (.int .i64 xs.length)) w') : Wl P ops Q (⟨dst, .call { callee := .builtin .copy, args := #[d, s], argTypes := #[dT, sT] }, rt, pos, af, none⟩ :: rest) a w := ⟨(
  wpList_plain rfl fun K hK => op_copyR hS d s dT sT rfl hu hsz hd hi hn hs hr hx hfit fun w' hw => hK _ _ (h w' hw))⟩
theorem wl_storeR {ty : TypeId} {x y : Operand} (hS : St X w0 m0 w es m) (hn : ∃ d, P.underlying ty = some d ∧ d.isRow = false ∧ (P.info? ty).map (·.size) = some 1) {g off : Nat} (hx : a.eval x = .pointer (some ⟨g, off, none⟩)) {v : Value} (hy : a.eval y = v) (h1 : v.oneCell' = true)
    {e : TypeId} {size n c : Nat} {xs : List Value} {f : Value → Nat → List Value → List Ent} (hi : RowAt es e size (.slice (some ⟨g, 0, none⟩) n c) n xs f) (hl : off < xs.length)
    (h : ∀ w', St X w0 m0 w' (f (.slice (some ⟨g, 0, none⟩) n c) n (xs.set off v)) m → wpList P ops Q rest (a.put dst undef) w') : Wl P ops Q (⟨dst, .store ty x y, rt, pos, af, none⟩ :: rest) a w := ⟨(
  wpList_plain rfl fun K hK => op_storeR hS ty x y rfl hn hx hy h1 hi hl fun w' hw => hK _ _ (h w' hw))⟩
theorem wl_make {t e : TypeId} {size bytes : Nat} {z : Value} (hE : Elem P t e size bytes z) {l c : Operand} (n : Nat) (hS : St X w0 m0 w es m) {kl kc : IntKind} {xl xc : Int} (hl : a.eval l = .int kl xl) (hc : a.eval c = .int kc xc) (hl2 : xl = n) (hc2 : xc = n) (hbytes : bytes * n ≤ 281474976710656) (h24 : n * size ≤ 16777216) (h63 : n ≤ maxLen)
    (h : ∀ w' b, St X w0 m0 w' (.row e size (.slice (some ⟨b, 0, none⟩) n n) n (madeCells z.cells (n * size)).toList :: es) m → wpList P ops Q rest (a.put dst (.slice (some ⟨b, 0, none⟩) n n)) w') : Wl P ops Q (⟨dst, .makeSlice t l c, rt, pos, af, none⟩ :: rest) a w := ⟨(
  wpList_plain rfl fun K hK => op_make hS hE l c rfl n hl hc hl2 hc2 hbytes h24 h63 fun w' b hw => hK _ _ (h w' b hw))⟩
theorem wl_lit0 {t e : TypeId} {size bytes : Nat} {z : Value} (hE : Elem P t e size bytes z) (hS : St X w0 m0 w es m)
    (h : ∀ w' b, St X w0 m0 w' (.row e size (.slice (some ⟨b, 0, none⟩) 0 0) 0 [] :: es) m → wpList P ops Q rest (a.put dst (.slice (some ⟨b, 0, none⟩) 0 0)) w') : Wl P ops Q (⟨dst, .buildSlice t 0 #[], rt, pos, af, none⟩ :: rest) a w := ⟨(
  wpList_plain rfl fun K hK => op_lit0 hS hE rfl fun w' b hw => hK _ _ (h w' b hw))⟩
theorem wl_unwanted {P : Program} {ops : Array Oper} {Q : Exit → Act → World → Prop} {a : Act} {w : World} {rest : List Oper} {dst : Option Tmp} {op : Op} {rt : TypeId} {pos : String} {af : Array Edge} {g : Nat × Bool}
    (hw : Region.wanted ⟨dst, op, rt, pos, af, some g⟩ (yielded ops a.tmps) = false) (h : wpList P ops Q rest (a.put dst undef) w) : Wl P ops Q (⟨dst, op, rt, pos, af, some g⟩ :: rest) a w := ⟨( wpList_skip hw h)⟩
theorem wg_case {ty : TypeId} {x : Operand} (hT : Region.wanted ⟨dst, .load ty x, rt, pos, af, some g⟩ (yielded ops a.tmps) = true → wpList P ops Q (⟨dst, .load ty x, rt, pos, af, some g⟩ :: rest) a w)
    (hF : Region.wanted ⟨dst, .load ty x, rt, pos, af, some g⟩ (yielded ops a.tmps) = false → wpList P ops Q (⟨dst, .load ty x, rt, pos, af, some g⟩ :: rest) a w) : Wl P ops Q (⟨dst, .load ty x, rt, pos, af, some g⟩ :: rest) a w := by
  cases h : Region.wanted ⟨dst, .load ty x, rt, pos, af, some g⟩ (yielded ops a.tmps) with
  | true => exact ⟨hT h⟩
  | false => exact ⟨hF h⟩
end Go.Proofs.Ytnmgiiaejpaeeaa
/- Results of calls as letters: what a walk carries on is a letter, what it stands for lies hidden. -/
namespace Go.Proofs.Ytnmgiiaejpaeeaa
set_option linter.unusedVariables false
set_option linter.unusedSimpArgs false
open Go.RowKit Go.Shelf
variable {P : Program} {f : FuncId} {args : Array Value} {w : World} {m : Mem}
theorem St.leSelf {X : List Nat} {w0 w : World} {m0 m : Mem} {es : List Ent} (_ : St X w0 m0 w es m) : m.Le m := Mem.Le.refl m
theorem St.settleRow' {X : List Nat} {w0 w : World} {m0 m : Mem} {es : List Ent} {α : Type} {L : Lay α} (hS : St X w0 m0 w es m) (i : Nat) {e : TypeId} {v : Value} {cells : List Value} {xs : List α} {n : Nat} (hn : xs.length = n) (hi : es[i]? = some (.row e L.n v n cells)) (hc : CellsOf L m cells xs) (hb : xs.length * L.bytes ≤ 140737488355328) :
    ∃ m', St X w0 m0 w (es.eraseIdx i) m' ∧ m.Le m' ∧ L.list.rd m' [v] xs := by
  subst hn
  exact hS.settleRow i hi hc hb
theorem letB {b : Bool} (h : Calls P f args w (Ret w m fun v _ => v = .bool b)) : Calls P f args w (Ret w m fun v _ => ∃ b', Hid (b' = b) ∧ v = .bool b') :=
  h.mono fun e w' ⟨v, m', h1, h2, h3⟩ => ⟨v, m', h1, ⟨b, rfl, h2⟩, h3⟩
theorem letInt {k : IntKind} {x : Int} (h : Calls P f args w (Ret w m fun v _ => v = .int k x)) : Calls P f args w (Ret w m fun v _ => ∃ x', Hid (x' = x) ∧ v = .int k x') :=
  h.mono fun e w' ⟨v, m', h1, h2, h3⟩ => ⟨v, m', h1, ⟨x, rfl, h2⟩, h3⟩
/-- A disk opened: its cells. -/
theorem dkL_cells {m : Mem} {cs : List Value} {d : Dk} (h : dkL.rd m cs d) : ∃ p c q e, cs = [.slice p d.dry.length c, .slice q d.wet.length e, .int .i64 d.fuse, .bool d.dead] ∧ Hid (dkL.rd m cs d) := by
  have hh := h
  obtain ⟨v0, v1, rfl, h0, h1, _⟩ := dkL_open h
  obtain ⟨p0, c0, rfl, _⟩ := Lay.list_open h0
  obtain ⟨p1, c1, rfl, _⟩ := Lay.list_open h1
  exact ⟨p0, c0, p1, c1, rfl, hh⟩
theorem dkL_dry {m : Mem} {v0 v1 v2 v3 : Value} {d : Dk} (h : dkL.rd m [v0, v1, v2, v3] d) : bytesL.rd m [v0] d.dry := by
  obtain ⟨x0, x1, e, h0, _⟩ := dkL_open h
  cases e
  exact h0
theorem letDE {d : Dk} {e : Int} (h : Calls P f args w (RetDE w m d e)) : Calls P f args w (Ret w m fun v m' => ∃ p c q a d' e', Hid (d' = d) ∧ Hid (e' = e) ∧ v = .tuple #[.agg ([.slice p d'.dry.length c, .slice q d'.wet.length a, .int .i64 d'.fuse, .bool d'.dead] : List Value).toArray, .int .i64 e'] ∧ Hid (dkL.rd m' [.slice p d'.dry.length c, .slice q d'.wet.length a, .int .i64 d'.fuse, .bool d'.dead] d')) :=
  h.mono fun en w' ⟨v, m', h1, ⟨cs, h2, h3⟩, h4⟩ => by
    obtain ⟨p, c, q, a, rfl, h5⟩ := dkL_cells h3
    exact ⟨v, m', h1, ⟨p, c, q, a, d, e, rfl, rfl, h2, h5⟩, h4⟩
theorem letBE {b : List Int} {e : Int} (h : Calls P f args w (RetBE w m b e)) : Calls P f args w (Ret w m fun v m' => ∃ p c b' e', Hid (b' = b) ∧ Hid (e' = e) ∧ v = .tuple #[.slice p b'.length c, .int .i64 e'] ∧ Hid (bytesL.rd m' [.slice p b'.length c] b') ∧ Hid (b'.length ≤ c ∧ c ≤ maxLen)) :=
  h.mono fun en w' ⟨v, m', h1, ⟨vb, h2, h3⟩, h4⟩ => by
    have hh := h3
    obtain ⟨p, c, rfl, a1, a2, _⟩ := Lay.list_open h3
    exact ⟨v, m', h1, ⟨p, c, b, e, rfl, rfl, h2, hh, a1, a2⟩, h4⟩
theorem letL {b : List Int} (h : Calls P f args w (Ret w m fun v m' => bytesL.rd m' [v] b)) : Calls P f args w (Ret w m fun v m' => ∃ p c b', Hid (b' = b) ∧ v = .slice p b'.length c ∧ Hid (bytesL.rd m' [.slice p b'.length c] b') ∧ Hid (b'.length ≤ c ∧ c ≤ maxLen)) :=
  h.mono fun en w' ⟨v, m', h1, h3, h4⟩ => by
    have hh := h3
    obtain ⟨p, c, rfl, a1, a2, _⟩ := Lay.list_open h3
    exact ⟨_, m', h1, ⟨p, c, b, rfl, rfl, hh, a1, a2⟩, h4⟩
theorem letSame {x y : List Int} (h : Calls P f args w fun e w' => e = .returned (.bool (decide (x = y))) ∧ w = w') : Calls P f args w fun e w' => ∃ b', Hid (b' = decide (x = y)) ∧ e = .returned (.bool b') ∧ w = w' :=
  h.mono fun e w' ⟨h1, h2⟩ => ⟨_, rfl, h1, h2⟩
end Go.Proofs.Ytnmgiiaejpaeeaa
/- How the arguments of a law are opened: by layouts. -/
namespace Go.Proofs.Ytnmgiiaejpaeeaa
set_option linter.unusedVariables false
set_option linter.unusedSimpArgs false
open Go.RowKit Go.ChangeShapes Go.WideShapes
/-- What comes in at the type t is read by L. -/
def Opens {α : Type} (P : Program) (L : Lay α) (t : TypeId) : Prop := ∀ (H : Type) (enc : TypeId × Value → H) (W : World) (sp : Nat → Bool) (hd : Bool) (fuel : Nat) (cs : List Value) (d : DataW H) (ps : List MemPlace),
  DataW.trod enc P W 0 sp hd fuel t cs = some (d, ps) → (∀ n ∈ d.weights P t, n ≤ reachBytes) → ∃ x, L.rd (World.mem W) cs x
theorem wf_inK {k : IntKind} {n : Int} (h : (Lit.int k n).wf = true) : InK k n := by
  simp [Lit.wf] at h
  exact h
theorem Opens.int {P : Program} {t : TypeId} {k : IntKind} (ht : P.underlying t = some (.int k)) : Opens P (Lay.int k) t := by
  intro H enc W sp hd fuel cs d ps h _
  cases fuel with
  | zero => cases h
  | succ fuel =>
    unfold DataW.trod at h
    rw [ht] at h
    match cs, h with
    | [.int k' n], h =>
      simp only at h
      split at h
      · rename_i hk
        obtain ⟨rfl, hw⟩ := hk
        exact ⟨n, rfl, wf_inK hw⟩
      · cases h
theorem Opens.bool {P : Program} {t : TypeId} (ht : P.underlying t = some .bool) : Opens P Lay.bool t := by
  intro H enc W sp hd fuel cs d ps h _
  cases fuel with
  | zero => cases h
  | succ fuel =>
    unfold DataW.trod at h
    rw [ht] at h
    match cs, h with
    | [.bool b], h => exact ⟨b, rfl⟩
theorem weightsAll_mem {H : Type} {P : Program} {e : TypeId} : ∀ {l : List (DataW H)} {d : DataW H}, d ∈ l → ∀ n ∈ d.weights P e, n ∈ DataW.weightsAll P e l
  | x :: l, d, h, n, hn => by
    simp only [DataW.weightsAll, List.mem_append]
    rcases List.mem_cons.1 h with rfl | h
    · exact .inl hn
    · exact .inr (weightsAll_mem h n hn)
theorem Opens.list {α : Type} {P : Program} {L : Lay α} {t e : TypeId} (ht : P.underlying t = some (.slice e)) (he : Opens P L e) (hc : P.cellsOf e = L.n) (hb : P.bytesOf e = L.bytes) (h0 : 0 < L.n) : Opens P L.list t := by
  intro H enc W sp hd fuel cs d ps h hw
  rcases Go.Deep.open_slice ht h with ⟨rfl, _⟩ | ⟨a, len, cap, m, n, D, Pl, rfl, _, hl, hm, hmm, hx, hel⟩
  · exact ⟨[], Lay.nil_rd _ _⟩
  · obtain ⟨rfl, rfl⟩ := Prod.mk.inj hx
    have hlm : len ≤ m := by rw [hmm]; split <;> omega
    have hwt : (len + (m - len)) * P.bytesOf e ≤ reachBytes := by
      refine hw _ ?_
      simp [DataW.weights, ht]
    have hex : ∀ i : Fin len, ∃ x, ∃ cs', L.rd (World.mem W) cs' x ∧ ∀ j v, cs'[j]? = some v → W.cell? ((a.add (i.1 * L.n)).add j) = some v := by
      intro i
      obtain ⟨cs', h1, h2⟩ := hel i.1 (by have := i.2; omega)
      obtain ⟨x, hx⟩ := he H enc W sp hd n cs' (D i.1) (Pl i.1) h2 (fun k hk => hw k (by
        simp only [DataW.weights, ht, List.mem_cons, List.mem_append]
        exact .inr (.inl (weightsAll_mem (List.mem_map.2 ⟨i.1, by simp, rfl⟩) k hk))))
      obtain ⟨_, hlen, hcell⟩ := World.cells?_some h1
      refine ⟨x, cs', hx, fun j v hj => ?_⟩
      have hjl := (List.getElem?_eq_some_iff.1 hj).1
      have := hcell j (by omega)
      rw [hj, hc] at this
      exact this
    obtain ⟨f, hf⟩ := Classical.axiomOfChoice hex
    have hlen : (List.ofFn f).length = len := by simp
    refine ⟨List.ofFn f, some a, cap, by rw [hlen], by rw [hlen]; exact hl, hm, ?_, ?_⟩
    · rw [hlen, ← hb]
      have : len * P.bytesOf e ≤ (len + (m - len)) * P.bytesOf e := Nat.mul_le_mul_right _ (by omega)
      simp only [reachBytes] at hwt
      omega
    · intro hpos
      obtain ⟨cs0, hr0, hc0⟩ := hf ⟨0, by omega⟩
      obtain ⟨b, o, sp'⟩ := a
      obtain rfl : sp' = none := by
        have hl0 := L.len hr0
        simpa [Addr.add] using World.cell?_spot (hc0 0 cs0[0] (List.getElem?_eq_getElem (by omega)))
      refine ⟨b, o, rfl, fun i x hx => ?_⟩
      have hi : i < len := by have := (List.getElem?_eq_some_iff.1 hx).1; omega
      obtain ⟨cs', h1, h2⟩ := hf ⟨i, hi⟩
      have e1 : x = f ⟨i, hi⟩ := by
        have := (List.getElem?_eq_some_iff.1 hx).2
        rw [← this]; simp
      rw [e1]
      refine ⟨cs', h1, fun j v hj => ?_⟩
      have := h2 j v hj
      rw [Addr.add_lit, Addr.add_lit] at this
      exact this
set_option maxRecDepth 100000 in
theorem opens_wr : Opens Try.prog wrL 102 := by
  intro H enc W sp hd fuel cs d ps h hw
  obtain ⟨y0, y1, n, hx, hl, h0, h1⟩ := trod_struct2 Try.underlying102 h
  obtain ⟨rfl, rfl⟩ := Prod.mk.inj hx
  have hl2 : cs.length = 2 := hl
  match cs, hl2 with
  | [c0, c1], _ =>
    obtain ⟨x0, g0⟩ := Opens.int (k := .i64) Try.underlying3 H enc W sp hd n [c0] y0.1 y0.2 h0 (fun k hk => hw k (by simp [DataW.weights, Try.underlying102, DataW.weightsEach]; exact .inl hk))
    obtain ⟨x1, g1⟩ := Opens.list (L := u8L) Try.underlying22 (Opens.int Try.underlying5) (by kernel_rfl) (by kernel_rfl) (by decide) H enc W sp hd n [c1] y1.1 y1.2 h1 (fun k hk => hw k (by simp [DataW.weights, Try.underlying102, DataW.weightsEach]; exact .inr hk))
    exact ⟨⟨x0, x1⟩, [c0], [c1], rfl, g0, g1⟩
set_option maxRecDepth 100000 in
theorem opens_dk : Opens Try.prog dkL 44 := by
  intro H enc W sp hd fuel cs d ps h hw
  obtain ⟨y0, y1, y2, y3, n, hx, hl, h0, h1, h2, h3⟩ := Go.Joins.trod_struct4 Try.underlying44 h
  obtain ⟨rfl, rfl⟩ := Prod.mk.inj hx
  have hl2 : cs.length = 4 := hl
  match cs, hl2 with
  | [c0, c1, c2, c3], _ =>
    obtain ⟨x0, g0⟩ := Opens.list (L := u8L) Try.underlying22 (Opens.int Try.underlying5) (by kernel_rfl) (by kernel_rfl) (by decide) H enc W sp hd n [c0] y0.1 y0.2 h0 (fun k hk => hw k (by simp [DataW.weights, Try.underlying44, DataW.weightsEach]; exact .inl hk))
    obtain ⟨x1, g1⟩ := Opens.list (L := wrL) Try.underlying42 opens_wr (by kernel_rfl) (by kernel_rfl) (by decide) H enc W sp hd n [c1] y1.1 y1.2 h1 (fun k hk => hw k (by simp [DataW.weights, Try.underlying44, DataW.weightsEach]; exact .inr (.inl hk)))
    obtain ⟨x2, g2⟩ := Opens.int (k := .i64) Try.underlying3 H enc W sp hd n [c2] y2.1 y2.2 h2 (fun k hk => hw k (by simp [DataW.weights, Try.underlying44, DataW.weightsEach]; exact .inr (.inr (.inl hk))))
    obtain ⟨x3, g3⟩ := Opens.bool Try.underlying4 H enc W sp hd n [c3] y3.1 y3.2 h3 (fun k hk => hw k (by simp [DataW.weights, Try.underlying44, DataW.weightsEach]; exact .inr (.inr (.inr hk))))
    exact ⟨⟨x0, x1, x2, x3⟩, [c0, c1, c2], [c3], rfl, ⟨[c0, c1], [c2], rfl, ⟨[c0], [c1], rfl, g0, g1⟩, g2⟩, g3⟩
theorem weights_of {H : Type} {P : Program} {ts : List TypeId} {ds : List (DataW H)} {j : Nat} {t : TypeId} {d : DataW H} (hsz : (DataW.weightsEach P ts ds).all (· ≤ reachBytes) = true) (ht : ts[j]? = some t) (hd : ds[j]? = some d) : ∀ n ∈ d.weights P t, n ≤ reachBytes :=
  fun n hn => by simpa using List.all_eq_true.1 hsz n (DataW.weights_mem_each ht hd n hn)
set_option maxRecDepth 100000 in
/-- A disk comes in. -/
theorem openDisk {H : Type} {enc : TypeId × Value → H} {W : World} {sp : Nat → Bool} {hd : Bool} {v : Value} {d : DataW H} {ps : List MemPlace} {r : Reach} {b0 : Nat} (hv : Value.okWide Try.prog W r b0 44 v) (h : DataW.Trod enc Try.prog W 0 sp hd 44 v d ps) (hw : ∀ n ∈ d.weights Try.prog 44, n ≤ reachBytes) : ∃ x, RdArg W v x := by
  obtain ⟨v0, v1, v2, v3, y0, y1, y2, y3, n, rfl, rfl, rfl, h0, h1, h2, h3⟩ := Go.Joins.open_agg4 Try.underlying44 (by kernel_rfl) (by kernel_rfl) hv h
  obtain ⟨x0, g0⟩ := Opens.list (L := u8L) Try.underlying22 (Opens.int Try.underlying5) (by kernel_rfl) (by kernel_rfl) (by decide) H enc W sp hd n [v0] y0.1 y0.2 h0 (fun k hk => hw k (by simp [DataW.weights, Try.underlying44, DataW.weightsEach]; exact .inl hk))
  obtain ⟨x1, g1⟩ := Opens.list (L := wrL) Try.underlying42 opens_wr (by kernel_rfl) (by kernel_rfl) (by decide) H enc W sp hd n [v1] y1.1 y1.2 h1 (fun k hk => hw k (by simp [DataW.weights, Try.underlying44, DataW.weightsEach]; exact .inr (.inl hk)))
  obtain ⟨x2, g2⟩ := Opens.int (k := .i64) Try.underlying3 H enc W sp hd n [v2] y2.1 y2.2 h2 (fun k hk => hw k (by simp [DataW.weights, Try.underlying44, DataW.weightsEach]; exact .inr (.inr (.inl hk))))
  obtain ⟨x3, g3⟩ := Opens.bool Try.underlying4 H enc W sp hd n [v3] y3.1 y3.2 h3 (fun k hk => hw k (by simp [DataW.weights, Try.underlying44, DataW.weightsEach]; exact .inr (.inr (.inr hk))))
  exact ⟨⟨x0, x1, x2, x3⟩, [v0, v1, v2, v3], rfl, [v0, v1, v2], [v3], rfl, ⟨[v0, v1], [v2], rfl, ⟨[v0], [v1], rfl, g0, g1⟩, g2⟩, g3⟩
end Go.Proofs.Ytnmgiiaejpaeeaa
