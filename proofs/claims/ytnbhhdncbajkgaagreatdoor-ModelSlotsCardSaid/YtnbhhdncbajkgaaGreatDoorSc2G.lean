/- scan: look. -/
import Derived.Test.YtnbhhdncbajkgaaGreatDoorSc1G
namespace Go.Proofs.YtnbhhdncbajkgaaGreatDoor
set_option linter.unusedVariables false
set_option linter.unusedSimpArgs false
open Go.RowKit Go.Shelf
/-- A finder's cells. -/
abbrev fiC (s : Sl) (q1 : Option Addr) (c1 : Nat) (q2 : Option Addr) (c2 : Nat) (q : List Int) (p : Option Addr) (c : Nat) (K : Int) (kp : Option Addr) (kl kc : Nat) (n : Nat) : List Value :=
  [.int .i64 s.dim, .slice q1 s.ids.length c1, .slice q2 s.vecs.length c2, .slice p q.length c, .int .i64 K, .slice kp kl kc, .int .i64 n]
theorem dN_in {a b : List Int} (ha : In16 a) (hb : In16 b) : 0 ≤ dN a b ∧ dN a b ≤ 64 * 4294836225 := by
  unfold dN
  split
  · rename_i h
    have h1 := distN_le ha hb a.length
    have := h.1.2.1
    unfold distV
    generalize distN a b a.length = t at *
    omega
  · omega
set_option maxRecDepth 100000 in
set_option maxHeartbeats 4000000 in
theorem look_c {X : List Nat} {w0 w : World} {m0 m : Mem} {b : Nat} {s : Sl} {q1 q2 p kp : Option Addr} {c1 c2 c kc n : Nat} {q : List Int} {K : Int} {l : List Hit}
    (hS : St X w0 m0 w [.box b (fiC s q1 c1 q2 c2 q p c K kp l.length kc n)] m)
    (hs : slL.rd m [.int .i64 s.dim, .slice q1 s.ids.length c1, .slice q2 s.vecs.length c2] s) (hq : vecL.rd m [.slice p q.length c] q) (hl : hitL.list.rd m [.slice kp l.length kc] l) (hK : InK .i64 K) (hn : n ≤ 1000)
    (i : Nat) (hi : i < s.ids.length) (hi2 : i < s.vecs.length) (hE : dE (s.vecs.getD i []) q = 0) (hX : addX l K ⟨dN (s.vecs.getD i []) q, s.ids.getD i 0⟩ = 0) :
    Calls Tryz.prog 82 #[.pointer (some ⟨b, 0, none⟩), .int .i64 i] w fun e w' => e = .returned (.int .i64 0) ∧ ∃ kp' kc' l' m', Hid (l' = addH l K ⟨dN (s.vecs.getD i []) q, s.ids.getD i 0⟩) ∧ m.Le m' ∧ Hid (hitL.list.rd m' [.slice kp' l'.length kc'] l') ∧
      St X w0 m0 w' [.box b (fiC s q1 c1 q2 c2 q p c K kp' l'.length kc' (n + 1))] m' := by
  obtain ⟨_, _, _, _, e, hd, h1, h2⟩ := slL_open hs
  cases e
  obtain ⟨_, _, e1, _, _, _, r1⟩ := Lay.list_open h1
  obtain ⟨_, _, e2, _, _, _, r2⟩ := Lay.list_open h2
  cases e1
  cases e2
  obtain ⟨bi, oi, rfl, hcx, hkx⟩ := r1.intAt i hi
  obtain ⟨bv, ov, qv, cv, rfl, hcv, hrd⟩ := r2.listAt i hi2
  have HD0 := dN_in (ints_in hrd) (ints_in hq)
  have HV := Lib.hid hrd
  have HQ := Lib.hid hq
  have HL := Lib.hid hl
  have HKK := Lib.hid hK
  have HKX := Lib.hid hkx
  have hiz : (i : Int) < s.ids.length := by omega
  have hiz2 : (i : Int) < s.vecs.length := by omega
  have hEE := Lib.hid hE
  have hXX := Lib.hid hX
  clear hs hq hl h1 h2 r1 r2 hrd hkx hE hX hK
  generalize s.ids.getD i 0 = x at *
  obtain ⟨D, hD⟩ : ∃ D, dN (s.vecs.getD i []) q = D := ⟨_, rfl⟩
  have HDI : Hid (InK .i64 D) := by rw [← hD]; exact inK64 (by omega) (by omega)
  rw [hD] at hXX ⊢
  have HDD := Lib.hid hD
  clear hD HD0
  generalize s.vecs.getD i [] = v at *
  go_enter Tryz.func82, Tryz.ntmps82
  go_wp2_with (first
    | ((with_reducible refine' Wl.out ?_; apply k_load hS); (· exact .mk))
    | ((with_reducible refine' Wl.out ?_; apply k_store hS); (· exact .mk); clear hS; intro ws hS)
    | ((with_reducible refine' Wl.out ?_; apply k_storeR hS); (· exact .mk); clear hS; intro ws hS))
  replace hS := hS.drew
  refine startL (S := Sx _ [(b, _)]) (by kernel_rfl) (hS.sx0.cons hS (by (repeat constructor))) (fun _ _ _ _ => trivial) (fun hHeld => ?_)
  focus (refine takeN 0 (v := ?_) rfl (by kernel_rfl) ?_ ?_; rotate_left; focus (intro w hSw; clear hSw; go_simp; try with_reducible rfl))
  try simp only [Act.put, nz1, nz2, nz3]
  focus (refine takeN 1 (v := ?_) rfl (by kernel_rfl) ?_ ?_; rotate_left; focus (intro w hSw; clear hSw; go_simp; try with_reducible rfl))
  try simp only [Act.put, nz1, nz2, nz3]
  focus (refine takeN 2 (v := ?_) rfl (by kernel_rfl) ?_ ?_; rotate_left; focus (intro w hSw; clear hSw; go_simp; try with_reducible rfl))
  try simp only [Act.put, nz1, nz2, nz3]
  focus (refine takeN 3 (v := ?_) rfl (by kernel_rfl) ?_ ?_; rotate_left; focus (intro w hSw; clear hSw; go_simp; try with_reducible rfl))
  try simp only [Act.put, nz1, nz2, nz3]
  refine takeN 4 rfl (by kernel_rfl) (yield_load rfl Tryz.underlying30 rfl rfl (by (first | (apply FindX.box; (· (repeat constructor)); rfl) | exact FindX.mem (by assumption)))) ?_
  try simp only [Act.put, nz1, nz2, nz3]
  focus (refine takeN 5 (v := ?_) rfl (by kernel_rfl) ?_ ?_; rotate_left; focus (intro w hSw; clear hSw; go_simp; try with_reducible rfl))
  try simp only [Act.put, nz1, nz2, nz3]
  focus (refine takeN 6 (v := ?_) rfl (by kernel_rfl) ?_ ?_; rotate_left; focus (intro w hSw; clear hSw; go_simp; try with_reducible rfl))
  try simp only [Act.put, nz1, nz2, nz3]
  refine takeN 7 rfl (by kernel_rfl) (yield_load rfl Tryz.underlying26 rfl rfl (by (first | (apply FindX.box; (· (repeat constructor)); rfl) | exact FindX.mem (by assumption)))) ?_
  try simp only [Act.put, nz1, nz2, nz3]
  focus (refine takeN 8 (v := ?_) rfl (by kernel_rfl) ?_ ?_; rotate_left; focus (intro w hSw; clear hSw; go_simp; try with_reducible rfl))
  try simp only [Act.put, nz1, nz2, nz3]
  focus (refine takeN 9 (v := ?_) rfl (by kernel_rfl) ?_ ?_; rotate_left; focus (intro w hSw; clear hSw; go_simp; try with_reducible rfl))
  try simp only [Act.put, nz1, nz2, nz3]
  focus (refine takeN 10 (v := ?_) rfl (by kernel_rfl) ?_ ?_; rotate_left; focus (intro w hSw; clear hSw; go_simp; try with_reducible rfl))
  try simp only [Act.put, nz1, nz2, nz3]
  refine takeN 11 rfl (by kernel_rfl) (yield_load rfl Tryz.underlying26 rfl rfl (by (first | (apply FindX.box; (· (repeat constructor)); rfl) | exact FindX.mem (by assumption)))) ?_
  try simp only [Act.put, nz1, nz2, nz3]
  refine wpAnyH_ready (rs := [12]) (by kernel_rfl) (by simp) ?_
  refine consL 12 rfl (fun K hK => ?_) AllReadyH.nil
  rw [if_pos (by rfl)]; go_simp; refine (vdist_c m _ hS.inw _ _ _ _ HV.out HQ.out).mono ?_; rintro e' w20 ⟨_, m20, rfl, rfl, hk⟩; replace hS := hS.grow (grownBy_of_below hk.below); clear hk; rw [HDD.out, hEE.out]; go_wp2_with fail
  refine hK.out _ _ (by first | exact (hS.sx0.cons hS (by (repeat constructor))) | exact Sx.le (by assumption) (hS.sx0.cons hS (by (repeat constructor)))) (fun hHeld => ?_)
  clear hK K
  try simp only [Act.put, nz1, nz2, nz3]
  focus (refine takeN 13 (v := ?_) rfl (by kernel_rfl) ?_ ?_; rotate_left; focus (intro w hSw; clear hSw; go_simp; try with_reducible rfl))
  try simp only [Act.put, nz1, nz2, nz3]
  focus (refine takeN 14 (v := ?_) rfl (by kernel_rfl) ?_ ?_; rotate_left; focus (intro w hSw; clear hSw; go_simp; try with_reducible rfl))
  try simp only [Act.put, nz1, nz2, nz3]
  focus (refine takeN 15 (v := ?_) rfl (by kernel_rfl) ?_ ?_; rotate_left; focus (intro w hSw; clear hSw; go_simp; try with_reducible rfl))
  try simp only [Act.put, nz1, nz2, nz3]
  focus (refine takeN 16 (v := ?_) rfl (by kernel_rfl) ?_ ?_; rotate_left; focus (intro w hSw; clear hSw; go_simp; try with_reducible rfl))
  try simp only [Act.put, nz1, nz2, nz3]
  focus (refine takeN 17 (v := ?_) rfl (by kernel_rfl) ?_ ?_; rotate_left; focus (intro w hSw; clear hSw; go_simp; try with_reducible rfl))
  try simp only [Act.put, nz1, nz2, nz3]
  refine wpAnyH_done (by kernel_rfl) ?_ _
  refine NoPanic.normal ?_
  all_goals
    go_wp2_with (first
    | ((with_reducible refine' Wl.out ?_; apply k_load hS); (· exact .mk))
    | ((with_reducible refine' Wl.out ?_; apply k_store hS); (· exact .mk); clear hS; intro ws hS)
    | ((with_reducible refine' Wl.out ?_; apply k_storeR hS); (· exact .mk); clear hS; intro ws hS))
  all_goals
    replace hS := hS.drew
    refine startL (S := Sx _ []) (by kernel_rfl) hS.sx0 (fun _ _ _ _ => trivial) (fun hHeld => ?_)
    focus (refine takeN 0 (v := ?_) rfl (by kernel_rfl) ?_ ?_; rotate_left; focus (intro w hSw; clear hSw; go_simp; try with_reducible rfl))
    try simp only [Act.put, nz1, nz2, nz3]
    focus (refine takeN 1 (v := ?_) rfl (by kernel_rfl) ?_ ?_; rotate_left; focus (intro w hSw; clear hSw; go_simp; try with_reducible rfl))
    try simp only [Act.put, nz1, nz2, nz3]
    focus (refine takeN 2 (v := ?_) rfl (by kernel_rfl) ?_ ?_; rotate_left; focus (intro w hSw; clear hSw; go_simp; try with_reducible rfl))
    try simp only [Act.put, nz1, nz2, nz3]
    focus (refine takeN 3 (v := ?_) rfl (by kernel_rfl) ?_ ?_; rotate_left; focus (intro w hSw; clear hSw; go_simp; try with_reducible rfl))
    try simp only [Act.put, nz1, nz2, nz3]
    focus (refine takeN 5 (v := ?_) rfl (by kernel_rfl) ?_ ?_; rotate_left; focus (intro w hSw; clear hSw; go_simp; try with_reducible rfl))
    try simp only [Act.put, nz1, nz2, nz3]
    focus (refine takeN 6 (v := ?_) rfl (by kernel_rfl) ?_ ?_; rotate_left; focus (intro w hSw; clear hSw; go_simp; try with_reducible rfl))
    try simp only [Act.put, nz1, nz2, nz3]
    focus (refine takeN 7 (v := ?_) rfl (by kernel_rfl) ?_ ?_; rotate_left; focus (intro w hSw; clear hSw; go_simp; try with_reducible rfl))
    try simp only [Act.put, nz1, nz2, nz3]
    focus (refine takeN 9 (v := ?_) rfl (by kernel_rfl) ?_ ?_; rotate_left; focus (intro w hSw; clear hSw; go_simp; try with_reducible rfl))
    try simp only [Act.put, nz1, nz2, nz3]
    focus (refine takeN 10 (v := ?_) rfl (by kernel_rfl) ?_ ?_; rotate_left; focus (intro w hSw; clear hSw; go_simp; try with_reducible rfl))
    try simp only [Act.put, nz1, nz2, nz3]
    focus (refine takeN 11 (v := ?_) rfl (by kernel_rfl) ?_ ?_; rotate_left; focus (intro w hSw; clear hSw; go_simp; try with_reducible rfl))
    try simp only [Act.put, nz1, nz2, nz3]
    focus (refine takeN 12 (v := ?_) rfl (by kernel_rfl) ?_ ?_; rotate_left; focus (intro w hSw; clear hSw; go_simp; try with_reducible rfl))
    try simp only [Act.put, nz1, nz2, nz3]
    focus (refine takeN 13 (v := ?_) rfl (by kernel_rfl) ?_ ?_; rotate_left; focus (intro w hSw; clear hSw; go_simp; try with_reducible rfl))
    try simp only [Act.put, nz1, nz2, nz3]
    focus (refine takeN 15 (v := ?_) rfl (by kernel_rfl) ?_ ?_; rotate_left; focus (intro w hSw; clear hSw; go_simp; try with_reducible rfl))
    try simp only [Act.put, nz1, nz2, nz3]
    refine wpAnyH_ready (rs := [4, 8, 14]) (by kernel_rfl) (by simp) ?_
    refine consL 4 rfl (fun K hK => ?_) (consL 8 rfl (fun K hK => ?_) (consL 14 rfl (fun K hK => ?_) AllReadyH.nil))
    rotate_right
    focus
      (with_reducible apply s_load hS); (· exact Tryz.underlying29); (· exact rfl); (· exact rfl); (· (first | (apply Find.box; (· (repeat constructor)); rfl) | exact Find.mem (by assumption) | (apply Find.row; (· (repeat constructor)); assumption)))
      refine hK.out _ _ (by first | exact hS.sx0 | exact Sx.le (by assumption) hS.sx0) (fun hHeld => ?_)
      clear hK K
      try simp only [Act.put, nz1, nz2, nz3]
      focus (refine takeN 16 (v := ?_) rfl (by kernel_rfl) ?_ ?_; rotate_left; focus (intro w hSw; clear hSw; go_simp; try with_reducible rfl))
      try simp only [Act.put, nz1, nz2, nz3]
      refine takeN 17 rfl (by kernel_rfl) (yield_load rfl Tryz.underlying2 rfl rfl (by (first | (apply FindX.box; (· (repeat constructor)); rfl) | exact FindX.mem (by assumption)))) ?_
      try simp only [Act.put, nz1, nz2, nz3]
      focus (refine takeN 18 (v := ?_) rfl (by kernel_rfl) ?_ ?_; rotate_left; focus (intro w hSw; clear hSw; go_simp; try with_reducible rfl))
      try simp only [Act.put, nz1, nz2, nz3]
      refine wpAnyH_ready (rs := [4, 8]) (by kernel_rfl) (by simp) ?_
      refine consL 4 rfl (fun K hK => ?_) (consL 8 rfl (fun K hK => ?_) AllReadyH.nil)
      rotate_right
      focus
        (with_reducible apply s_load hS); (· exact Tryz.underlying3); (· exact rfl); (· exact rfl); (· (first | (apply Find.box; (· (repeat constructor)); rfl) | exact Find.mem (by assumption) | (apply Find.row; (· (repeat constructor)); assumption)))
        refine hK.out _ _ (by first | exact hS.sx0 | exact Sx.le (by assumption) hS.sx0) (fun hHeld => ?_)
        clear hK K
        try simp only [Act.put, nz1, nz2, nz3]
        refine wpAnyH_ready (rs := [4]) (by kernel_rfl) (by simp) ?_
        refine consL 4 rfl (fun K hK => ?_) AllReadyH.nil
        (with_reducible apply s_load hS); (· exact Tryz.underlying34); (· exact rfl); (· exact rfl); (· (first | (apply Find.box; (· (repeat constructor)); rfl) | exact Find.mem (by assumption) | (apply Find.row; (· (repeat constructor)); assumption)))
        refine hK.out _ _ (by first | exact hS.sx0 | exact Sx.le (by assumption) hS.sx0) (fun hHeld => ?_)
        clear hK K
        try simp only [Act.put, nz1, nz2, nz3]
        refine wpAnyH_ready (rs := [19]) (by kernel_rfl) (by simp) ?_
        refine consL 19 rfl (fun K hK => ?_) AllReadyH.nil
        rw [if_pos (by rfl)]; go_simp; refine (letHE addH_len (badd_v _ _ hS.inw _ _ HL.out _ HKK.out _ _ HDI.out HKX.out)).mono ?_; rintro e' w53 ⟨_, m53, rfl, ⟨p53, c53, Y53, E53, HY53, HE53, rfl, R53, C53⟩, hk⟩; replace hS := hS.call hk; have HLE := Lib.hid hk.le; clear hk; obtain rfl := HE53.out.trans hXX.out; go_wp2_with fail
        refine hK.out _ _ (by first | exact hS.sx0 | exact Sx.le (by assumption) hS.sx0) (fun hHeld => ?_)
        clear hK K
        try simp only [Act.put, nz1, nz2, nz3]
        focus (refine takeN 20 (v := ?_) rfl (by kernel_rfl) ?_ ?_; rotate_left; focus (intro w hSw; clear hSw; go_simp; try with_reducible rfl))
        try simp only [Act.put, nz1, nz2, nz3]
        focus (refine takeN 21 (v := ?_) rfl (by kernel_rfl) ?_ ?_; rotate_left; focus (intro w hSw; clear hSw; go_simp; try with_reducible rfl))
        try simp only [Act.put, nz1, nz2, nz3]
        focus (refine takeN 22 (v := ?_) rfl (by kernel_rfl) ?_ ?_; rotate_left; focus (intro w hSw; clear hSw; go_simp; try with_reducible rfl))
        try simp only [Act.put, nz1, nz2, nz3]
        focus (refine takeN 23 (v := ?_) rfl (by kernel_rfl) ?_ ?_; rotate_left; focus (intro w hSw; clear hSw; go_simp; try with_reducible rfl))
        try simp only [Act.put, nz1, nz2, nz3]
        focus (refine takeN 24 (v := ?_) rfl (by kernel_rfl) ?_ ?_; rotate_left; focus (intro w hSw; clear hSw; go_simp; try with_reducible rfl))
        try simp only [Act.put, nz1, nz2, nz3]
        refine wpAnyH_ready (rs := [25]) (by kernel_rfl) (by simp) ?_
        refine consL 25 rfl (fun K hK => ?_) AllReadyH.nil
        (with_reducible apply s_store hS); (· exact rowT34); (· exact rfl); (· (first | (go_simp; done) | (go_simp; with_reducible rfl))); (· (first | rfl | assumption | (simp [Value.oneCell']; done))); (· (repeat constructor)); (· (repeat constructor)); (· (repeat constructor)); clear hS; intro ws hS
        refine hK.out _ _ (by first | exact hS.sx0 | exact Sx.le (by assumption) hS.sx0) (fun hHeld => ?_)
        clear hK K
        try simp only [Act.put, nz1, nz2, nz3]
        focus (refine takeN 26 (v := ?_) rfl (by kernel_rfl) ?_ ?_; rotate_left; focus (intro w hSw; clear hSw; go_simp; try with_reducible rfl))
        try simp only [Act.put, nz1, nz2, nz3]
        refine wpAnyH_done (by kernel_rfl) ?_ _
        refine NoPanic.normal ?_
      rotate_right
      focus
        (with_reducible apply s_load hS); (· exact Tryz.underlying34); (· exact rfl); (· exact rfl); (· (first | (apply Find.box; (· (repeat constructor)); rfl) | exact Find.mem (by assumption) | (apply Find.row; (· (repeat constructor)); assumption)))
        refine hK.out _ _ (by first | exact hS.sx0 | exact Sx.le (by assumption) hS.sx0) (fun hHeld => ?_)
        clear hK K
        try simp only [Act.put, nz1, nz2, nz3]
        refine wpAnyH_ready (rs := [8]) (by kernel_rfl) (by simp) ?_
        refine consL 8 rfl (fun K hK => ?_) AllReadyH.nil
        (with_reducible apply s_load hS); (· exact Tryz.underlying3); (· exact rfl); (· exact rfl); (· (first | (apply Find.box; (· (repeat constructor)); rfl) | exact Find.mem (by assumption) | (apply Find.row; (· (repeat constructor)); assumption)))
        refine hK.out _ _ (by first | exact hS.sx0 | exact Sx.le (by assumption) hS.sx0) (fun hHeld => ?_)
        clear hK K
        try simp only [Act.put, nz1, nz2, nz3]
        refine wpAnyH_ready (rs := [19]) (by kernel_rfl) (by simp) ?_
        refine consL 19 rfl (fun K hK => ?_) AllReadyH.nil
        rw [if_pos (by rfl)]; go_simp; refine (letHE addH_len (badd_v _ _ hS.inw _ _ HL.out _ HKK.out _ _ HDI.out HKX.out)).mono ?_; rintro e' w53 ⟨_, m53, rfl, ⟨p53, c53, Y53, E53, HY53, HE53, rfl, R53, C53⟩, hk⟩; replace hS := hS.call hk; have HLE := Lib.hid hk.le; clear hk; obtain rfl := HE53.out.trans hXX.out; go_wp2_with fail
        refine hK.out _ _ (by first | exact hS.sx0 | exact Sx.le (by assumption) hS.sx0) (fun hHeld => ?_)
        clear hK K
        try simp only [Act.put, nz1, nz2, nz3]
        focus (refine takeN 20 (v := ?_) rfl (by kernel_rfl) ?_ ?_; rotate_left; focus (intro w hSw; clear hSw; go_simp; try with_reducible rfl))
        try simp only [Act.put, nz1, nz2, nz3]
        focus (refine takeN 21 (v := ?_) rfl (by kernel_rfl) ?_ ?_; rotate_left; focus (intro w hSw; clear hSw; go_simp; try with_reducible rfl))
        try simp only [Act.put, nz1, nz2, nz3]
        focus (refine takeN 22 (v := ?_) rfl (by kernel_rfl) ?_ ?_; rotate_left; focus (intro w hSw; clear hSw; go_simp; try with_reducible rfl))
        try simp only [Act.put, nz1, nz2, nz3]
        focus (refine takeN 23 (v := ?_) rfl (by kernel_rfl) ?_ ?_; rotate_left; focus (intro w hSw; clear hSw; go_simp; try with_reducible rfl))
        try simp only [Act.put, nz1, nz2, nz3]
        focus (refine takeN 24 (v := ?_) rfl (by kernel_rfl) ?_ ?_; rotate_left; focus (intro w hSw; clear hSw; go_simp; try with_reducible rfl))
        try simp only [Act.put, nz1, nz2, nz3]
        refine wpAnyH_ready (rs := [25]) (by kernel_rfl) (by simp) ?_
        refine consL 25 rfl (fun K hK => ?_) AllReadyH.nil
        (with_reducible apply s_store hS); (· exact rowT34); (· exact rfl); (· (first | (go_simp; done) | (go_simp; with_reducible rfl))); (· (first | rfl | assumption | (simp [Value.oneCell']; done))); (· (repeat constructor)); (· (repeat constructor)); (· (repeat constructor)); clear hS; intro ws hS
        refine hK.out _ _ (by first | exact hS.sx0 | exact Sx.le (by assumption) hS.sx0) (fun hHeld => ?_)
        clear hK K
        try simp only [Act.put, nz1, nz2, nz3]
        focus (refine takeN 26 (v := ?_) rfl (by kernel_rfl) ?_ ?_; rotate_left; focus (intro w hSw; clear hSw; go_simp; try with_reducible rfl))
        try simp only [Act.put, nz1, nz2, nz3]
        refine wpAnyH_done (by kernel_rfl) ?_ _
        refine NoPanic.normal ?_
    rotate_right
    focus
      (with_reducible apply s_load hS); (· exact Tryz.underlying3); (· exact rfl); (· exact rfl); (· (first | (apply Find.box; (· (repeat constructor)); rfl) | exact Find.mem (by assumption) | (apply Find.row; (· (repeat constructor)); assumption)))
      refine hK.out _ _ (by first | exact hS.sx0 | exact Sx.le (by assumption) hS.sx0) (fun hHeld => ?_)
      clear hK K
      try simp only [Act.put, nz1, nz2, nz3]
      refine wpAnyH_ready (rs := [4, 14]) (by kernel_rfl) (by simp) ?_
      refine consL 4 rfl (fun K hK => ?_) (consL 14 rfl (fun K hK => ?_) AllReadyH.nil)
      rotate_right
      focus
        (with_reducible apply s_load hS); (· exact Tryz.underlying29); (· exact rfl); (· exact rfl); (· (first | (apply Find.box; (· (repeat constructor)); rfl) | exact Find.mem (by assumption) | (apply Find.row; (· (repeat constructor)); assumption)))
        refine hK.out _ _ (by first | exact hS.sx0 | exact Sx.le (by assumption) hS.sx0) (fun hHeld => ?_)
        clear hK K
        try simp only [Act.put, nz1, nz2, nz3]
        focus (refine takeN 16 (v := ?_) rfl (by kernel_rfl) ?_ ?_; rotate_left; focus (intro w hSw; clear hSw; go_simp; try with_reducible rfl))
        try simp only [Act.put, nz1, nz2, nz3]
        refine takeN 17 rfl (by kernel_rfl) (yield_load rfl Tryz.underlying2 rfl rfl (by (first | (apply FindX.box; (· (repeat constructor)); rfl) | exact FindX.mem (by assumption)))) ?_
        try simp only [Act.put, nz1, nz2, nz3]
        focus (refine takeN 18 (v := ?_) rfl (by kernel_rfl) ?_ ?_; rotate_left; focus (intro w hSw; clear hSw; go_simp; try with_reducible rfl))
        try simp only [Act.put, nz1, nz2, nz3]
        refine wpAnyH_ready (rs := [4]) (by kernel_rfl) (by simp) ?_
        refine consL 4 rfl (fun K hK => ?_) AllReadyH.nil
        (with_reducible apply s_load hS); (· exact Tryz.underlying34); (· exact rfl); (· exact rfl); (· (first | (apply Find.box; (· (repeat constructor)); rfl) | exact Find.mem (by assumption) | (apply Find.row; (· (repeat constructor)); assumption)))
        refine hK.out _ _ (by first | exact hS.sx0 | exact Sx.le (by assumption) hS.sx0) (fun hHeld => ?_)
        clear hK K
        try simp only [Act.put, nz1, nz2, nz3]
        refine wpAnyH_ready (rs := [19]) (by kernel_rfl) (by simp) ?_
        refine consL 19 rfl (fun K hK => ?_) AllReadyH.nil
        rw [if_pos (by rfl)]; go_simp; refine (letHE addH_len (badd_v _ _ hS.inw _ _ HL.out _ HKK.out _ _ HDI.out HKX.out)).mono ?_; rintro e' w53 ⟨_, m53, rfl, ⟨p53, c53, Y53, E53, HY53, HE53, rfl, R53, C53⟩, hk⟩; replace hS := hS.call hk; have HLE := Lib.hid hk.le; clear hk; obtain rfl := HE53.out.trans hXX.out; go_wp2_with fail
        refine hK.out _ _ (by first | exact hS.sx0 | exact Sx.le (by assumption) hS.sx0) (fun hHeld => ?_)
        clear hK K
        try simp only [Act.put, nz1, nz2, nz3]
        focus (refine takeN 20 (v := ?_) rfl (by kernel_rfl) ?_ ?_; rotate_left; focus (intro w hSw; clear hSw; go_simp; try with_reducible rfl))
        try simp only [Act.put, nz1, nz2, nz3]
        focus (refine takeN 21 (v := ?_) rfl (by kernel_rfl) ?_ ?_; rotate_left; focus (intro w hSw; clear hSw; go_simp; try with_reducible rfl))
        try simp only [Act.put, nz1, nz2, nz3]
        focus (refine takeN 22 (v := ?_) rfl (by kernel_rfl) ?_ ?_; rotate_left; focus (intro w hSw; clear hSw; go_simp; try with_reducible rfl))
        try simp only [Act.put, nz1, nz2, nz3]
        focus (refine takeN 23 (v := ?_) rfl (by kernel_rfl) ?_ ?_; rotate_left; focus (intro w hSw; clear hSw; go_simp; try with_reducible rfl))
        try simp only [Act.put, nz1, nz2, nz3]
        focus (refine takeN 24 (v := ?_) rfl (by kernel_rfl) ?_ ?_; rotate_left; focus (intro w hSw; clear hSw; go_simp; try with_reducible rfl))
        try simp only [Act.put, nz1, nz2, nz3]
        refine wpAnyH_ready (rs := [25]) (by kernel_rfl) (by simp) ?_
        refine consL 25 rfl (fun K hK => ?_) AllReadyH.nil
        (with_reducible apply s_store hS); (· exact rowT34); (· exact rfl); (· (first | (go_simp; done) | (go_simp; with_reducible rfl))); (· (first | rfl | assumption | (simp [Value.oneCell']; done))); (· (repeat constructor)); (· (repeat constructor)); (· (repeat constructor)); clear hS; intro ws hS
        refine hK.out _ _ (by first | exact hS.sx0 | exact Sx.le (by assumption) hS.sx0) (fun hHeld => ?_)
        clear hK K
        try simp only [Act.put, nz1, nz2, nz3]
        focus (refine takeN 26 (v := ?_) rfl (by kernel_rfl) ?_ ?_; rotate_left; focus (intro w hSw; clear hSw; go_simp; try with_reducible rfl))
        try simp only [Act.put, nz1, nz2, nz3]
        refine wpAnyH_done (by kernel_rfl) ?_ _
        refine NoPanic.normal ?_
      rotate_right
      focus
        (with_reducible apply s_load hS); (· exact Tryz.underlying34); (· exact rfl); (· exact rfl); (· (first | (apply Find.box; (· (repeat constructor)); rfl) | exact Find.mem (by assumption) | (apply Find.row; (· (repeat constructor)); assumption)))
        refine hK.out _ _ (by first | exact hS.sx0 | exact Sx.le (by assumption) hS.sx0) (fun hHeld => ?_)
        clear hK K
        try simp only [Act.put, nz1, nz2, nz3]
        refine wpAnyH_ready (rs := [14]) (by kernel_rfl) (by simp) ?_
        refine consL 14 rfl (fun K hK => ?_) AllReadyH.nil
        (with_reducible apply s_load hS); (· exact Tryz.underlying29); (· exact rfl); (· exact rfl); (· (first | (apply Find.box; (· (repeat constructor)); rfl) | exact Find.mem (by assumption) | (apply Find.row; (· (repeat constructor)); assumption)))
        refine hK.out _ _ (by first | exact hS.sx0 | exact Sx.le (by assumption) hS.sx0) (fun hHeld => ?_)
        clear hK K
        try simp only [Act.put, nz1, nz2, nz3]
        focus (refine takeN 16 (v := ?_) rfl (by kernel_rfl) ?_ ?_; rotate_left; focus (intro w hSw; clear hSw; go_simp; try with_reducible rfl))
        try simp only [Act.put, nz1, nz2, nz3]
        refine takeN 17 rfl (by kernel_rfl) (yield_load rfl Tryz.underlying2 rfl rfl (by (first | (apply FindX.box; (· (repeat constructor)); rfl) | exact FindX.mem (by assumption)))) ?_
        try simp only [Act.put, nz1, nz2, nz3]
        focus (refine takeN 18 (v := ?_) rfl (by kernel_rfl) ?_ ?_; rotate_left; focus (intro w hSw; clear hSw; go_simp; try with_reducible rfl))
        try simp only [Act.put, nz1, nz2, nz3]
        refine wpAnyH_ready (rs := [19]) (by kernel_rfl) (by simp) ?_
        refine consL 19 rfl (fun K hK => ?_) AllReadyH.nil
        rw [if_pos (by rfl)]; go_simp; refine (letHE addH_len (badd_v _ _ hS.inw _ _ HL.out _ HKK.out _ _ HDI.out HKX.out)).mono ?_; rintro e' w53 ⟨_, m53, rfl, ⟨p53, c53, Y53, E53, HY53, HE53, rfl, R53, C53⟩, hk⟩; replace hS := hS.call hk; have HLE := Lib.hid hk.le; clear hk; obtain rfl := HE53.out.trans hXX.out; go_wp2_with fail
        refine hK.out _ _ (by first | exact hS.sx0 | exact Sx.le (by assumption) hS.sx0) (fun hHeld => ?_)
        clear hK K
        try simp only [Act.put, nz1, nz2, nz3]
        focus (refine takeN 20 (v := ?_) rfl (by kernel_rfl) ?_ ?_; rotate_left; focus (intro w hSw; clear hSw; go_simp; try with_reducible rfl))
        try simp only [Act.put, nz1, nz2, nz3]
        focus (refine takeN 21 (v := ?_) rfl (by kernel_rfl) ?_ ?_; rotate_left; focus (intro w hSw; clear hSw; go_simp; try with_reducible rfl))
        try simp only [Act.put, nz1, nz2, nz3]
        focus (refine takeN 22 (v := ?_) rfl (by kernel_rfl) ?_ ?_; rotate_left; focus (intro w hSw; clear hSw; go_simp; try with_reducible rfl))
        try simp only [Act.put, nz1, nz2, nz3]
        focus (refine takeN 23 (v := ?_) rfl (by kernel_rfl) ?_ ?_; rotate_left; focus (intro w hSw; clear hSw; go_simp; try with_reducible rfl))
        try simp only [Act.put, nz1, nz2, nz3]
        focus (refine takeN 24 (v := ?_) rfl (by kernel_rfl) ?_ ?_; rotate_left; focus (intro w hSw; clear hSw; go_simp; try with_reducible rfl))
        try simp only [Act.put, nz1, nz2, nz3]
        refine wpAnyH_ready (rs := [25]) (by kernel_rfl) (by simp) ?_
        refine consL 25 rfl (fun K hK => ?_) AllReadyH.nil
        (with_reducible apply s_store hS); (· exact rowT34); (· exact rfl); (· (first | (go_simp; done) | (go_simp; with_reducible rfl))); (· (first | rfl | assumption | (simp [Value.oneCell']; done))); (· (repeat constructor)); (· (repeat constructor)); (· (repeat constructor)); clear hS; intro ws hS
        refine hK.out _ _ (by first | exact hS.sx0 | exact Sx.le (by assumption) hS.sx0) (fun hHeld => ?_)
        clear hK K
        try simp only [Act.put, nz1, nz2, nz3]
        focus (refine takeN 26 (v := ?_) rfl (by kernel_rfl) ?_ ?_; rotate_left; focus (intro w hSw; clear hSw; go_simp; try with_reducible rfl))
        try simp only [Act.put, nz1, nz2, nz3]
        refine wpAnyH_done (by kernel_rfl) ?_ _
        refine NoPanic.normal ?_
    rotate_right
    focus
      (with_reducible apply s_load hS); (· exact Tryz.underlying34); (· exact rfl); (· exact rfl); (· (first | (apply Find.box; (· (repeat constructor)); rfl) | exact Find.mem (by assumption) | (apply Find.row; (· (repeat constructor)); assumption)))
      refine hK.out _ _ (by first | exact hS.sx0 | exact Sx.le (by assumption) hS.sx0) (fun hHeld => ?_)
      clear hK K
      try simp only [Act.put, nz1, nz2, nz3]
      refine wpAnyH_ready (rs := [8, 14]) (by kernel_rfl) (by simp) ?_
      refine consL 8 rfl (fun K hK => ?_) (consL 14 rfl (fun K hK => ?_) AllReadyH.nil)
      rotate_right
      focus
        (with_reducible apply s_load hS); (· exact Tryz.underlying29); (· exact rfl); (· exact rfl); (· (first | (apply Find.box; (· (repeat constructor)); rfl) | exact Find.mem (by assumption) | (apply Find.row; (· (repeat constructor)); assumption)))
        refine hK.out _ _ (by first | exact hS.sx0 | exact Sx.le (by assumption) hS.sx0) (fun hHeld => ?_)
        clear hK K
        try simp only [Act.put, nz1, nz2, nz3]
        focus (refine takeN 16 (v := ?_) rfl (by kernel_rfl) ?_ ?_; rotate_left; focus (intro w hSw; clear hSw; go_simp; try with_reducible rfl))
        try simp only [Act.put, nz1, nz2, nz3]
        refine takeN 17 rfl (by kernel_rfl) (yield_load rfl Tryz.underlying2 rfl rfl (by (first | (apply FindX.box; (· (repeat constructor)); rfl) | exact FindX.mem (by assumption)))) ?_
        try simp only [Act.put, nz1, nz2, nz3]
        focus (refine takeN 18 (v := ?_) rfl (by kernel_rfl) ?_ ?_; rotate_left; focus (intro w hSw; clear hSw; go_simp; try with_reducible rfl))
        try simp only [Act.put, nz1, nz2, nz3]
        refine wpAnyH_ready (rs := [8]) (by kernel_rfl) (by simp) ?_
        refine consL 8 rfl (fun K hK => ?_) AllReadyH.nil
        (with_reducible apply s_load hS); (· exact Tryz.underlying3); (· exact rfl); (· exact rfl); (· (first | (apply Find.box; (· (repeat constructor)); rfl) | exact Find.mem (by assumption) | (apply Find.row; (· (repeat constructor)); assumption)))
        refine hK.out _ _ (by first | exact hS.sx0 | exact Sx.le (by assumption) hS.sx0) (fun hHeld => ?_)
        clear hK K
        try simp only [Act.put, nz1, nz2, nz3]
        refine wpAnyH_ready (rs := [19]) (by kernel_rfl) (by simp) ?_
        refine consL 19 rfl (fun K hK => ?_) AllReadyH.nil
        rw [if_pos (by rfl)]; go_simp; refine (letHE addH_len (badd_v _ _ hS.inw _ _ HL.out _ HKK.out _ _ HDI.out HKX.out)).mono ?_; rintro e' w53 ⟨_, m53, rfl, ⟨p53, c53, Y53, E53, HY53, HE53, rfl, R53, C53⟩, hk⟩; replace hS := hS.call hk; have HLE := Lib.hid hk.le; clear hk; obtain rfl := HE53.out.trans hXX.out; go_wp2_with fail
        refine hK.out _ _ (by first | exact hS.sx0 | exact Sx.le (by assumption) hS.sx0) (fun hHeld => ?_)
        clear hK K
        try simp only [Act.put, nz1, nz2, nz3]
        focus (refine takeN 20 (v := ?_) rfl (by kernel_rfl) ?_ ?_; rotate_left; focus (intro w hSw; clear hSw; go_simp; try with_reducible rfl))
        try simp only [Act.put, nz1, nz2, nz3]
        focus (refine takeN 21 (v := ?_) rfl (by kernel_rfl) ?_ ?_; rotate_left; focus (intro w hSw; clear hSw; go_simp; try with_reducible rfl))
        try simp only [Act.put, nz1, nz2, nz3]
        focus (refine takeN 22 (v := ?_) rfl (by kernel_rfl) ?_ ?_; rotate_left; focus (intro w hSw; clear hSw; go_simp; try with_reducible rfl))
        try simp only [Act.put, nz1, nz2, nz3]
        focus (refine takeN 23 (v := ?_) rfl (by kernel_rfl) ?_ ?_; rotate_left; focus (intro w hSw; clear hSw; go_simp; try with_reducible rfl))
        try simp only [Act.put, nz1, nz2, nz3]
        focus (refine takeN 24 (v := ?_) rfl (by kernel_rfl) ?_ ?_; rotate_left; focus (intro w hSw; clear hSw; go_simp; try with_reducible rfl))
        try simp only [Act.put, nz1, nz2, nz3]
        refine wpAnyH_ready (rs := [25]) (by kernel_rfl) (by simp) ?_
        refine consL 25 rfl (fun K hK => ?_) AllReadyH.nil
        (with_reducible apply s_store hS); (· exact rowT34); (· exact rfl); (· (first | (go_simp; done) | (go_simp; with_reducible rfl))); (· (first | rfl | assumption | (simp [Value.oneCell']; done))); (· (repeat constructor)); (· (repeat constructor)); (· (repeat constructor)); clear hS; intro ws hS
        refine hK.out _ _ (by first | exact hS.sx0 | exact Sx.le (by assumption) hS.sx0) (fun hHeld => ?_)
        clear hK K
        try simp only [Act.put, nz1, nz2, nz3]
        focus (refine takeN 26 (v := ?_) rfl (by kernel_rfl) ?_ ?_; rotate_left; focus (intro w hSw; clear hSw; go_simp; try with_reducible rfl))
        try simp only [Act.put, nz1, nz2, nz3]
        refine wpAnyH_done (by kernel_rfl) ?_ _
        refine NoPanic.normal ?_
      rotate_right
      focus
        (with_reducible apply s_load hS); (· exact Tryz.underlying3); (· exact rfl); (· exact rfl); (· (first | (apply Find.box; (· (repeat constructor)); rfl) | exact Find.mem (by assumption) | (apply Find.row; (· (repeat constructor)); assumption)))
        refine hK.out _ _ (by first | exact hS.sx0 | exact Sx.le (by assumption) hS.sx0) (fun hHeld => ?_)
        clear hK K
        try simp only [Act.put, nz1, nz2, nz3]
        refine wpAnyH_ready (rs := [14]) (by kernel_rfl) (by simp) ?_
        refine consL 14 rfl (fun K hK => ?_) AllReadyH.nil
        (with_reducible apply s_load hS); (· exact Tryz.underlying29); (· exact rfl); (· exact rfl); (· (first | (apply Find.box; (· (repeat constructor)); rfl) | exact Find.mem (by assumption) | (apply Find.row; (· (repeat constructor)); assumption)))
        refine hK.out _ _ (by first | exact hS.sx0 | exact Sx.le (by assumption) hS.sx0) (fun hHeld => ?_)
        clear hK K
        try simp only [Act.put, nz1, nz2, nz3]
        focus (refine takeN 16 (v := ?_) rfl (by kernel_rfl) ?_ ?_; rotate_left; focus (intro w hSw; clear hSw; go_simp; try with_reducible rfl))
        try simp only [Act.put, nz1, nz2, nz3]
        refine takeN 17 rfl (by kernel_rfl) (yield_load rfl Tryz.underlying2 rfl rfl (by (first | (apply FindX.box; (· (repeat constructor)); rfl) | exact FindX.mem (by assumption)))) ?_
        try simp only [Act.put, nz1, nz2, nz3]
        focus (refine takeN 18 (v := ?_) rfl (by kernel_rfl) ?_ ?_; rotate_left; focus (intro w hSw; clear hSw; go_simp; try with_reducible rfl))
        try simp only [Act.put, nz1, nz2, nz3]
        refine wpAnyH_ready (rs := [19]) (by kernel_rfl) (by simp) ?_
        refine consL 19 rfl (fun K hK => ?_) AllReadyH.nil
        rw [if_pos (by rfl)]; go_simp; refine (letHE addH_len (badd_v _ _ hS.inw _ _ HL.out _ HKK.out _ _ HDI.out HKX.out)).mono ?_; rintro e' w53 ⟨_, m53, rfl, ⟨p53, c53, Y53, E53, HY53, HE53, rfl, R53, C53⟩, hk⟩; replace hS := hS.call hk; have HLE := Lib.hid hk.le; clear hk; obtain rfl := HE53.out.trans hXX.out; go_wp2_with fail
        refine hK.out _ _ (by first | exact hS.sx0 | exact Sx.le (by assumption) hS.sx0) (fun hHeld => ?_)
        clear hK K
        try simp only [Act.put, nz1, nz2, nz3]
        focus (refine takeN 20 (v := ?_) rfl (by kernel_rfl) ?_ ?_; rotate_left; focus (intro w hSw; clear hSw; go_simp; try with_reducible rfl))
        try simp only [Act.put, nz1, nz2, nz3]
        focus (refine takeN 21 (v := ?_) rfl (by kernel_rfl) ?_ ?_; rotate_left; focus (intro w hSw; clear hSw; go_simp; try with_reducible rfl))
        try simp only [Act.put, nz1, nz2, nz3]
        focus (refine takeN 22 (v := ?_) rfl (by kernel_rfl) ?_ ?_; rotate_left; focus (intro w hSw; clear hSw; go_simp; try with_reducible rfl))
        try simp only [Act.put, nz1, nz2, nz3]
        focus (refine takeN 23 (v := ?_) rfl (by kernel_rfl) ?_ ?_; rotate_left; focus (intro w hSw; clear hSw; go_simp; try with_reducible rfl))
        try simp only [Act.put, nz1, nz2, nz3]
        focus (refine takeN 24 (v := ?_) rfl (by kernel_rfl) ?_ ?_; rotate_left; focus (intro w hSw; clear hSw; go_simp; try with_reducible rfl))
        try simp only [Act.put, nz1, nz2, nz3]
        refine wpAnyH_ready (rs := [25]) (by kernel_rfl) (by simp) ?_
        refine consL 25 rfl (fun K hK => ?_) AllReadyH.nil
        (with_reducible apply s_store hS); (· exact rowT34); (· exact rfl); (· (first | (go_simp; done) | (go_simp; with_reducible rfl))); (· (first | rfl | assumption | (simp [Value.oneCell']; done))); (· (repeat constructor)); (· (repeat constructor)); (· (repeat constructor)); clear hS; intro ws hS
        refine hK.out _ _ (by first | exact hS.sx0 | exact Sx.le (by assumption) hS.sx0) (fun hHeld => ?_)
        clear hK K
        try simp only [Act.put, nz1, nz2, nz3]
        focus (refine takeN 26 (v := ?_) rfl (by kernel_rfl) ?_ ?_; rotate_left; focus (intro w hSw; clear hSw; go_simp; try with_reducible rfl))
        try simp only [Act.put, nz1, nz2, nz3]
        refine wpAnyH_done (by kernel_rfl) ?_ _
        refine NoPanic.normal ?_
  all_goals
    go_wp2_with (first
    | ((with_reducible refine' Wl.out ?_; apply k_load hS); (· exact .mk))
    | ((with_reducible refine' Wl.out ?_; apply k_store hS); (· exact .mk); clear hS; intro ws hS)
    | ((with_reducible refine' Wl.out ?_; apply k_storeR hS); (· exact .mk); clear hS; intro ws hS))
    go_ret
    exact ⟨rfl, p53, c53, Y53, m53, HY53, HLE.out, R53, hS⟩
end Go.Proofs.YtnbhhdncbajkgaaGreatDoor
