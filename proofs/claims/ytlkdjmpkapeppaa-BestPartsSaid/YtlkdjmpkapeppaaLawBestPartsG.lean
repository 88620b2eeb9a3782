/- The walk of BestParts. -/
import Derived.Test.YtlkdjmpkapeppaaBn1G
namespace Go.Proofs.Ytlkdjmpkapeppaa
set_option linter.unusedVariables false
set_option linter.unusedSimpArgs false
open Go.RowKit Go.Shelf
theorem wf_u16p {x : Int} (h : (Lit.int .u16 x).wf = true) : 0 ≤ x ∧ x ≤ 65535 := by
  simp [Lit.wf, IntKind.min, IntKind.max, IntKind.signed, IntKind.bits] at h
  exact h
/-- From a place on. -/
def frH (far : List Int) (c i : Nat) : List Hit := (upH far i).drop c
theorem frH_low {far : List Int} {c i : Nat} (h : i ≤ c) : frH far c i = [] := List.drop_eq_nil_of_le (by rw [upH_len]; exact h)
theorem frH_succ {far : List Int} {c i : Nat} (h : c ≤ i) : frH far c (i + 1) = frH far c i ++ [Hn far i] := by
  unfold frH
  rw [upH_succ, List.drop_append_of_le_length (by rw [upH_len]; exact h)]
theorem upH_take {far : List Int} {c i : Nat} (h : c ≤ i) : (upH far i).take c = upH far c := by
  unfold upH
  rw [← List.map_take, List.take_range, Nat.min_eq_left h]
theorem frH_new {far : List Int} {c i : Nat} : ∀ x ∈ frH far c i, x.id ≠ (Hn far i).id := fun x hx => upH_new x (List.mem_of_mem_drop hx)
theorem up_fr {far : List Int} {c i : Nat} (h : c ≤ i) : upH far c ++ frH far c i = upH far i := by
  rw [← upH_take h]; exact List.take_append_drop c _
theorem InvN.self {l S : List Hit} {k : Int} (h : InvN l S k) : InvN l l k := by
  have h1 := h.1.2.2.1
  refine ⟨h.1, ?_, by omega⟩
  unfold near
  rw [List.take_of_length_le (by rw [srt_length]; omega)]
theorem InvN.sub {l S : List Hit} {k : Int} (h : InvN l S k) : ∀ x ∈ l, x ∈ S := fun x hx => near_sub (k := k.toNat) x (by rw [← h.2.1]; exact (srt_perm l).mem_iff.2 hx)
theorem InvN.both {l r S T b : List Hit} {k : Int} (h : InvN l S k) (h2 : InvN r T k) (hb : InvN b (l ++ r) k) : srt b = near k.toNat (S ++ T) := by
  rw [hb.2.1, ← near_both k.toNat S T, ← h.2.1, ← h2.2.1]
  exact near_congr (List.Perm.append (srt_perm l).symm (srt_perm r).symm)
theorem part_new {far : List Int} {C n : Nat} {l0 l1 : List Hit} {k : Int} (h0 : InvN l0 (upH far C) k) (h1 : InvN l1 (frH far C n) k) {j : Nat} (hj : j < l1.length) : ∀ x ∈ l0 ++ l1.take j, x.id ≠ l1[j].id := by
  have hid : ∀ i, i < n → ∀ x, x ∈ frH far C n → (C : Int) ≤ x.id := fun _ _ x hx => by
    unfold frH at hx
    obtain ⟨a, ha, rfl⟩ := List.getElem_of_mem hx
    rw [List.getElem_drop]
    simp [upH, Hn]
    omega
  intro x hx
  rcases List.mem_append.1 hx with hx | hx
  · obtain ⟨a, ha, rfl⟩ := List.mem_map.1 (h0.sub x hx)
    have hm := h1.sub _ (List.getElem_mem hj)
    have ha' := List.mem_range.1 ha
    have hn : 0 < n := by
      rcases Nat.eq_zero_or_pos n with h | h
      · subst h; simp [frH, upH] at hm
      · exact h
    have := hid 0 hn _ hm
    simp [Hn]
    omega
  · have hnd := h1.1.2.2.2.2.1
    intro e
    have := not_nodup hj (by rw [← e]; exact List.mem_map.2 ⟨x, hx, rfl⟩)
    exact this hnd
/-- Where it is cut. -/
theorem cut_at (x : Int) (n : Nat) (h1 : -9223372036854775808 ≤ x) (h2 : x ≤ 9223372036854775807) (hn : n ≤ 100) : ∃ (r : Int) (c : Nat), Int.tmod x ((n : Int) + 1) = r ∧ -(n : Int) - 1 < r ∧ r < (n : Int) + 1 ∧ Int.tmod (r + n + 1) ((n : Int) + 1) = (c : Int) ∧ c ≤ n := by
  refine ⟨Int.tmod x ((n : Int) + 1), ((Int.tmod x ((n : Int) + 1) + n + 1).toNat % (n + 1)), rfl, ?_, ?_, ?_, ?_⟩
  · have := Int.lt_tmod_of_pos x (show (0 : Int) < (n : Int) + 1 by omega); omega
  · exact Int.tmod_lt_of_pos x (by omega)
  · have h1 := Int.lt_tmod_of_pos x (show (0 : Int) < (n : Int) + 1 by omega)
    obtain ⟨m, hm⟩ : ∃ m : Nat, Int.tmod x ((n : Int) + 1) + n + 1 = m := ⟨(Int.tmod x ((n : Int) + 1) + n + 1).toNat, by omega⟩
    rw [hm]
    have : ((n : Int) + 1) = ((n + 1 : Nat) : Int) := by omega
    rw [this]
    simp [Int.tmod]
  · have := Nat.mod_lt (Int.tmod x ((n : Int) + 1) + n + 1).toNat (show 0 < n + 1 by omega)
    omega
set_option maxRecDepth 100000 in
set_option maxHeartbeats 8000000 in
theorem walkBestParts (w : World) (p : Option Addr) (c : Nat) (far : List Int) (hr : Rd .u16 w p far) (hw : ∀ x ∈ far, (Lit.int .u16 x).wf = true) (hc : far.length ≤ c) (hm : c ≤ maxLen) (hy : far.length * 2 ≤ 140737488351232) (cut : Int) (hcut : (Lit.int .i64 cut).wf = true) (K : Int) (hk : (Lit.int .i64 K).wf = true) :
    Calls Try.prog 4 #[.slice p far.length c, .int .i64 cut, .int .i64 K] w fun e w' => e = .returned (.bool true) ∧ Below w.heap.size w w' := by
  have hS := St.start (World.mem_in w)
  have I0 := Lib.hid (show InK .i64 K by have h2 := hk; simp [Lit.wf] at h2; exact h2)
  have IC := Lib.hid (show -9223372036854775808 ≤ cut ∧ cut ≤ 9223372036854775807 by have h2 := hcut; simp [Lit.wf, IntKind.min, IntKind.max, IntKind.signed, IntKind.bits] at h2; exact h2)
  have HR := Lib.hid hr
  have HW := Lib.hid (fun x hx => wf_u16p (hw x hx))
  clear hr hw hk hcut
  by_cases hbig : (100 : Int) < far.length
  · clear HR HW IC
    go_enter Try.func4, Try.ntmps4
    go_wp2_with (first
    | ((with_reducible refine' Wl.out ?_; apply k_alloc (ty := 37) (dst := some 8) hS); (· exact .mk); clear hS; intro w8 b8 hS)
    | ((with_reducible refine' Wl.out ?_; apply k_alloc (ty := 30) (dst := some 12) hS); (· exact .mk); clear hS; intro w12 b12 hS)
    | ((with_reducible refine' Wl.out ?_; apply k_alloc (ty := 30) (dst := some 20) hS); (· exact .mk); clear hS; intro w20 b20 hS)
    | ((with_reducible refine' Wl.out ?_; apply k_load hS); (· exact .mk))
    | ((with_reducible refine' Wl.out ?_; apply k_loads hS); (· exact .mk))
    | ((with_reducible refine' Wl.out ?_; apply k_store hS); (· exact .mk); clear hS; intro ws hS)
    | ((with_reducible refine' Wl.out ?_; apply k_storeR hS); (· exact .mk); clear hS; intro ws hS)
    | ((with_reducible refine' Wl.out ?_; apply k_stores hS); (· exact .mk); clear hS; intro ws hS)
    | (go_at_call 11; (fail_if_success (clear Mk27)); refine (live16_c _ _ hS.inw).mono ?_; rintro e' w27 ⟨_, m27, rfl, rfl, hk⟩; replace hS := hS.call hk; (try replace A1 := Lib.hid (Lay.mono _ hk.le A1.out)); (try replace A2 := Lib.hid (Lay.mono _ hk.le A2.out)); (try replace A3 := Lib.hid (Lay.mono _ hk.le A3.out)); (try replace A4 := Lib.hid (Lay.mono _ hk.le A4.out)); (try replace R75 := Lib.hid (Lay.mono _ hk.le R75.out)); (try replace R82 := Lib.hid (Lay.mono _ hk.le R82.out)); (try replace R109 := Lib.hid (Lay.mono _ hk.le R109.out)); (try replace R119 := Lib.hid (Lay.mono _ hk.le R119.out)); (try replace R125 := Lib.hid (Lay.mono _ hk.le R125.out)); clear hk; have Mk27 := True.intro))
    (first | (go_ret; exact ⟨rfl, hS.below⟩) | (go_ret; refine ⟨?_, hS.below⟩; simp; done))
  by_cases hk1 : K < 1
  · clear HR HW IC
    go_enter Try.func4, Try.ntmps4
    go_wp2_with (first
    | ((with_reducible refine' Wl.out ?_; apply k_alloc (ty := 37) (dst := some 8) hS); (· exact .mk); clear hS; intro w8 b8 hS)
    | ((with_reducible refine' Wl.out ?_; apply k_alloc (ty := 30) (dst := some 12) hS); (· exact .mk); clear hS; intro w12 b12 hS)
    | ((with_reducible refine' Wl.out ?_; apply k_alloc (ty := 30) (dst := some 20) hS); (· exact .mk); clear hS; intro w20 b20 hS)
    | ((with_reducible refine' Wl.out ?_; apply k_load hS); (· exact .mk))
    | ((with_reducible refine' Wl.out ?_; apply k_loads hS); (· exact .mk))
    | ((with_reducible refine' Wl.out ?_; apply k_store hS); (· exact .mk); clear hS; intro ws hS)
    | ((with_reducible refine' Wl.out ?_; apply k_storeR hS); (· exact .mk); clear hS; intro ws hS)
    | ((with_reducible refine' Wl.out ?_; apply k_stores hS); (· exact .mk); clear hS; intro ws hS)
    | (go_at_call 11; (fail_if_success (clear Mk27)); refine (live16_c _ _ hS.inw).mono ?_; rintro e' w27 ⟨_, m27, rfl, rfl, hk⟩; replace hS := hS.call hk; (try replace A1 := Lib.hid (Lay.mono _ hk.le A1.out)); (try replace A2 := Lib.hid (Lay.mono _ hk.le A2.out)); (try replace A3 := Lib.hid (Lay.mono _ hk.le A3.out)); (try replace A4 := Lib.hid (Lay.mono _ hk.le A4.out)); (try replace R75 := Lib.hid (Lay.mono _ hk.le R75.out)); (try replace R82 := Lib.hid (Lay.mono _ hk.le R82.out)); (try replace R109 := Lib.hid (Lay.mono _ hk.le R109.out)); (try replace R119 := Lib.hid (Lay.mono _ hk.le R119.out)); (try replace R125 := Lib.hid (Lay.mono _ hk.le R125.out)); clear hk; have Mk27 := True.intro))
    (first | (go_ret; exact ⟨rfl, hS.below⟩) | (go_ret; refine ⟨?_, hS.below⟩; simp; done))
  by_cases hk2 : 256 < K
  · clear HR HW IC
    go_enter Try.func4, Try.ntmps4
    go_wp2_with (first
    | ((with_reducible refine' Wl.out ?_; apply k_alloc (ty := 37) (dst := some 8) hS); (· exact .mk); clear hS; intro w8 b8 hS)
    | ((with_reducible refine' Wl.out ?_; apply k_alloc (ty := 30) (dst := some 12) hS); (· exact .mk); clear hS; intro w12 b12 hS)
    | ((with_reducible refine' Wl.out ?_; apply k_alloc (ty := 30) (dst := some 20) hS); (· exact .mk); clear hS; intro w20 b20 hS)
    | ((with_reducible refine' Wl.out ?_; apply k_load hS); (· exact .mk))
    | ((with_reducible refine' Wl.out ?_; apply k_loads hS); (· exact .mk))
    | ((with_reducible refine' Wl.out ?_; apply k_store hS); (· exact .mk); clear hS; intro ws hS)
    | ((with_reducible refine' Wl.out ?_; apply k_storeR hS); (· exact .mk); clear hS; intro ws hS)
    | ((with_reducible refine' Wl.out ?_; apply k_stores hS); (· exact .mk); clear hS; intro ws hS)
    | (go_at_call 11; (fail_if_success (clear Mk27)); refine (live16_c _ _ hS.inw).mono ?_; rintro e' w27 ⟨_, m27, rfl, rfl, hk⟩; replace hS := hS.call hk; (try replace A1 := Lib.hid (Lay.mono _ hk.le A1.out)); (try replace A2 := Lib.hid (Lay.mono _ hk.le A2.out)); (try replace A3 := Lib.hid (Lay.mono _ hk.le A3.out)); (try replace A4 := Lib.hid (Lay.mono _ hk.le A4.out)); (try replace R75 := Lib.hid (Lay.mono _ hk.le R75.out)); (try replace R82 := Lib.hid (Lay.mono _ hk.le R82.out)); (try replace R109 := Lib.hid (Lay.mono _ hk.le R109.out)); (try replace R119 := Lib.hid (Lay.mono _ hk.le R119.out)); (try replace R125 := Lib.hid (Lay.mono _ hk.le R125.out)); clear hk; have Mk27 := True.intro))
    (first | (go_ret; exact ⟨rfl, hS.below⟩) | (go_ret; refine ⟨?_, hS.below⟩; simp; done))
  have hn100 : far.length ≤ 100 := by omega
  obtain ⟨r, C, hr1, hr2, hr3, hr4, hC⟩ := cut_at cut far.length IC.out.1 IC.out.2 hn100
  have z1 : ¬ ((far.length : Int) + 1) = 0 := by omega
  have z2 : IntKind.i64.wrap ((far.length : Int) + 1) = (far.length : Int) + 1 := wrap64 (by omega) (by omega)
  go_enter Try.func4, Try.ntmps4
  go_wp2_with (first
    | ((with_reducible refine' Wl.out ?_; apply k_alloc (ty := 37) (dst := some 8) hS); (· exact .mk); clear hS; intro w8 b8 hS)
    | ((with_reducible refine' Wl.out ?_; apply k_alloc (ty := 30) (dst := some 12) hS); (· exact .mk); clear hS; intro w12 b12 hS)
    | ((with_reducible refine' Wl.out ?_; apply k_alloc (ty := 30) (dst := some 20) hS); (· exact .mk); clear hS; intro w20 b20 hS)
    | ((with_reducible refine' Wl.out ?_; apply k_load hS); (· exact .mk))
    | ((with_reducible refine' Wl.out ?_; apply k_loads hS); (· exact .mk))
    | ((with_reducible refine' Wl.out ?_; apply k_store hS); (· exact .mk); clear hS; intro ws hS)
    | ((with_reducible refine' Wl.out ?_; apply k_storeR hS); (· exact .mk); clear hS; intro ws hS)
    | ((with_reducible refine' Wl.out ?_; apply k_stores hS); (· exact .mk); clear hS; intro ws hS)
    | (go_at_call 11; (fail_if_success (clear Mk27)); refine (live16_c _ _ hS.inw).mono ?_; rintro e' w27 ⟨_, m27, rfl, rfl, hk⟩; replace hS := hS.call hk; (try replace A1 := Lib.hid (Lay.mono _ hk.le A1.out)); (try replace A2 := Lib.hid (Lay.mono _ hk.le A2.out)); (try replace A3 := Lib.hid (Lay.mono _ hk.le A3.out)); (try replace A4 := Lib.hid (Lay.mono _ hk.le A4.out)); (try replace R75 := Lib.hid (Lay.mono _ hk.le R75.out)); (try replace R82 := Lib.hid (Lay.mono _ hk.le R82.out)); (try replace R109 := Lib.hid (Lay.mono _ hk.le R109.out)); (try replace R119 := Lib.hid (Lay.mono _ hk.le R119.out)); (try replace R125 := Lib.hid (Lay.mono _ hk.le R125.out)); clear hk; have Mk27 := True.intro))
  clear hr1 hr4 hr2 hr3 z1 z2 IC
  go_loopw [9, 57] (fun v9 i wr => ∃ (i' : Nat) (l0 l1 al : List Hit) (q0 q1 qa : Option Addr) (c0 c1 ca : Nat) (m' : Mem), i' ≤ far.length ∧ v9 = .slice qa al.length ca ∧ i = .int .i64 i' ∧ Hid (InvN l0 (upH far (min i' C)) K) ∧ Hid (InvN l1 (frH far C i') K) ∧ Hid (InvN al (upH far i') K) ∧ Hid (hitL.list.rd m' [.slice q0 l0.length c0] l0) ∧ Hid (hitL.list.rd m' [.slice q1 l1.length c1] l1) ∧ Hid (hitL.list.rd m' [.slice qa al.length ca] al) ∧ St [] w (World.mem w) wr [.box b8 [.slice q0 l0.length c0, .slice q1 l1.length c1]] m') (fun _ i _ => far.length - (intOf i).toNat)
  case atStart => exact ⟨0, [], [], [], none, none, none, 0, 0, 0, _, Nat.zero_le _, rfl, rfl, (by rw [Nat.zero_min]; exact InvN.nil (by omega) (by omega)), (by rw [frH_low (Nat.zero_le _)]; exact InvN.nil (by omega) (by omega)), InvN.nil (by omega) (by omega), Lay.nil_rd _ _, Lay.nil_rd _ _, Lay.nil_rd _ _, hS⟩
  case round =>
    clear hS
    obtain ⟨i, l0, l1, al, q0, q1, qa, c0, c1, ca, m', hi, rfl, rfl, H0, H1, H2, A1, A2, A3, hS⟩ := hrel
    by_cases hlt : i < far.length
    · obtain ⟨bq, oq, rfl, hcell⟩ := HR.out (by omega)
      have hx := HW.out (far.getD i 0) (by simp [List.getD, hlt])
      have cx := hS.le _ _ (hcell i hlt)
      have s2 := Lib.hid (H2.out.step (fine_n HW.out hlt hn100) upH_new)
      rw [← upH_succ] at s2
      have e1 : IntKind.i64.wrap (far.getD i 0) = far.getD i 0 := wrap64 (by omega) (by omega)
      have I1 := Lib.hid (show InK .i64 (far.getD i 0) from inK64 (by omega) (by omega))
      have i1z : (i : Int) < far.length := by omega
      clear hcell H2
      by_cases hcut : i < C
      · have hcz : ¬ (C : Int) ≤ (i : Int) := by omega
        have s1 : Hid (addX l0 K ⟨far.getD i 0, (i : Nat)⟩ = 0 ∧ InvN (addH l0 K ⟨far.getD i 0, (i : Nat)⟩) (upH far (min (i + 1) C)) K) := by
          have := H0.out
          rw [Nat.min_eq_left (by omega)] at this
          show _ ∧ _
          rw [Nat.min_eq_left (by omega), upH_succ]
          exact this.step (fine_n HW.out hlt hn100) upH_new
        have s3 : Hid (InvN l1 (frH far C (i + 1)) K) := by
          have := H1.out
          rw [frH_low (by omega)] at this
          show InvN _ _ _
          rw [frH_low (by omega)]
          exact this
        unfold Hn at s2
        clear H0 H1
        generalize far.getD i 0 = x at *
        go_wp2_with (first
    | ((with_reducible refine' Wl.out ?_; apply k_alloc (ty := 37) (dst := some 8) hS); (· exact .mk); clear hS; intro w8 b8 hS)
    | ((with_reducible refine' Wl.out ?_; apply k_alloc (ty := 30) (dst := some 12) hS); (· exact .mk); clear hS; intro w12 b12 hS)
    | ((with_reducible refine' Wl.out ?_; apply k_alloc (ty := 30) (dst := some 20) hS); (· exact .mk); clear hS; intro w20 b20 hS)
    | ((with_reducible refine' Wl.out ?_; apply k_load hS); (· exact .mk))
    | ((with_reducible refine' Wl.out ?_; apply k_loads hS); (· exact .mk))
    | ((with_reducible refine' Wl.out ?_; apply k_store hS); (· exact .mk); clear hS; intro ws hS)
    | ((with_reducible refine' Wl.out ?_; apply k_storeR hS); (· exact .mk); clear hS; intro ws hS)
    | ((with_reducible refine' Wl.out ?_; apply k_stores hS); (· exact .mk); clear hS; intro ws hS))
        replace hS := hS.drew
        have hle := hS.leSelf
        refine startL (S := Sx _ [(b8, _), (b12, _)]) (by kernel_rfl) ((hS.sx0.cons hS (by (repeat constructor))).cons hS (by (repeat constructor))) (fun _ _ _ _ => trivial) (fun hHeld => ?_)
        focus (refine takeN 0 (v := ?_) rfl (by kernel_rfl) ?_ ?_; rotate_left; focus (intro w hSw; clear hSw; go_simp; try with_reducible rfl))
        try simp only [Act.put, nz1, nz2, nz3]
        focus (refine takeN 1 (v := ?_) rfl (by kernel_rfl) ?_ ?_; rotate_left; focus (intro w hSw; clear hSw; go_simp; try with_reducible rfl))
        try simp only [Act.put, nz1, nz2, nz3]
        refine takeN 2 rfl (by kernel_rfl) (yield_load rfl Try.underlying24 rfl rfl (by (first | (apply FindX.box; (· (repeat constructor)); rfl) | exact FindX.mem (by assumption)))) ?_
        try simp only [Act.put, nz1, nz2, nz3]
        focus (refine takeN 3 (v := ?_) rfl (by kernel_rfl) ?_ ?_; rotate_left; focus (intro w hSw; clear hSw; go_simp; try with_reducible rfl))
        try simp only [Act.put, nz1, nz2, nz3]
        refine takeN 4 rfl (by kernel_rfl) (yield_loads rfl rowT30 rfl (by (first | (apply FindsX.box; (· (repeat constructor)); (· (repeat constructor)); done) | (refine FindsX.mem (by assumption) ?_; first | rfl | assumption | (simp; done))))) ?_
        try simp only [Act.put, nz1, nz2, nz3]
        refine wpAnyH_ready (rs := [5]) (by kernel_rfl) (by simp) ?_
        refine consL 5 rfl (fun K hK => ?_) AllReadyH.nil
        rw [if_pos (by rfl)]; go_simp; refine (letHE addH_len (badd_v _ _ hS.inw _ _ (by first | exact A1.out | exact A2.out | exact A3.out | exact A4.out | exact R75.out | exact R82.out | exact R109.out | exact R119.out | exact R125.out | exact dkL_dry A1.out | exact dkL_dry A2.out | exact dkL_dry A3.out | exact dkL_dry A4.out | exact Lay.nil_rd _ _) _ (by first | exact I0.out | exact I1.out | exact I2.out | exact inK64 (by omega) (by omega) | assumption) _ _ (by first | exact I0.out | exact I1.out | exact I2.out | exact inK64 (by omega) (by omega) | assumption) (by first | exact I0.out | exact I1.out | exact I2.out | exact inK64 (by omega) (by omega) | assumption))).mono ?_; rintro e' w75 ⟨_, m75, rfl, ⟨p75, c75, Y75, E75, HY75, HE75, rfl, R75, C75⟩, hk⟩; replace hS := hS.call hk; (try replace A1 := Lib.hid (Lay.mono _ hk.le A1.out)); (try replace A2 := Lib.hid (Lay.mono _ hk.le A2.out)); (try replace A3 := Lib.hid (Lay.mono _ hk.le A3.out)); (try replace A4 := Lib.hid (Lay.mono _ hk.le A4.out)); (try replace R75 := Lib.hid (Lay.mono _ hk.le R75.out)); (try replace R82 := Lib.hid (Lay.mono _ hk.le R82.out)); (try replace R109 := Lib.hid (Lay.mono _ hk.le R109.out)); (try replace R119 := Lib.hid (Lay.mono _ hk.le R119.out)); (try replace R125 := Lib.hid (Lay.mono _ hk.le R125.out)); replace hle := hle.trans hk.le; clear hk; obtain rfl : E75 = 0 := HE75.out.trans s1.out.1; go_wp2_with fail
        refine hK.out _ _ (by first | exact ((hS.sx0.cons hS (by (repeat constructor))).cons hS (by (repeat constructor))) | exact Sx.le (by assumption) ((hS.sx0.cons hS (by (repeat constructor))).cons hS (by (repeat constructor)))) (fun hHeld => ?_)
        clear hK K
        try simp only [Act.put, nz1, nz2, nz3]
        focus (refine takeN 6 (v := ?_) rfl (by kernel_rfl) ?_ ?_; rotate_left; focus (intro w hSw; clear hSw; go_simp; try with_reducible rfl))
        try simp only [Act.put, nz1, nz2, nz3]
        focus (refine takeN 7 (v := ?_) rfl (by kernel_rfl) ?_ ?_; rotate_left; focus (intro w hSw; clear hSw; go_simp; try with_reducible rfl))
        try simp only [Act.put, nz1, nz2, nz3]
        focus (refine takeN 8 (v := ?_) rfl (by kernel_rfl) ?_ ?_; rotate_left; focus (intro w hSw; clear hSw; go_simp; try with_reducible rfl))
        try simp only [Act.put, nz1, nz2, nz3]
        focus (refine takeN 9 (v := ?_) rfl (by kernel_rfl) ?_ ?_; rotate_left; focus (intro w hSw; clear hSw; go_simp; try with_reducible rfl))
        try simp only [Act.put, nz1, nz2, nz3]
        focus (refine takeN 10 (v := ?_) rfl (by kernel_rfl) ?_ ?_; rotate_left; focus (intro w hSw; clear hSw; go_simp; try with_reducible rfl))
        try simp only [Act.put, nz1, nz2, nz3]
        refine wpAnyH_done (by kernel_rfl) ?_ _
        refine NoPanic.normal ?_
        all_goals
          go_wp2_with (first
    | ((with_reducible refine' Wl.out ?_; apply k_alloc (ty := 37) (dst := some 8) hS); (· exact .mk); clear hS; intro w8 b8 hS)
    | ((with_reducible refine' Wl.out ?_; apply k_alloc (ty := 30) (dst := some 12) hS); (· exact .mk); clear hS; intro w12 b12 hS)
    | ((with_reducible refine' Wl.out ?_; apply k_alloc (ty := 30) (dst := some 20) hS); (· exact .mk); clear hS; intro w20 b20 hS)
    | ((with_reducible refine' Wl.out ?_; apply k_load hS); (· exact .mk))
    | ((with_reducible refine' Wl.out ?_; apply k_loads hS); (· exact .mk))
    | ((with_reducible refine' Wl.out ?_; apply k_store hS); (· exact .mk); clear hS; intro ws hS)
    | ((with_reducible refine' Wl.out ?_; apply k_storeR hS); (· exact .mk); clear hS; intro ws hS)
    | ((with_reducible refine' Wl.out ?_; apply k_stores hS); (· exact .mk); clear hS; intro ws hS)
    | (go_at_call 12; (fail_if_success (clear Mk82)); refine (letHE addH_len (badd_v _ _ hS.inw _ _ (by first | exact A1.out | exact A2.out | exact A3.out | exact A4.out | exact R75.out | exact R82.out | exact R109.out | exact R119.out | exact R125.out | exact dkL_dry A1.out | exact dkL_dry A2.out | exact dkL_dry A3.out | exact dkL_dry A4.out | exact Lay.nil_rd _ _) _ (by first | exact I0.out | exact I1.out | exact I2.out | exact inK64 (by omega) (by omega) | assumption) _ _ (by first | exact I0.out | exact I1.out | exact I2.out | exact inK64 (by omega) (by omega) | assumption) (by first | exact I0.out | exact I1.out | exact I2.out | exact inK64 (by omega) (by omega) | assumption))).mono ?_; rintro e' w82 ⟨_, m82, rfl, ⟨p82, c82, Y82, E82, HY82, HE82, rfl, R82, C82⟩, hk⟩; replace hS := hS.call hk; (try replace A1 := Lib.hid (Lay.mono _ hk.le A1.out)); (try replace A2 := Lib.hid (Lay.mono _ hk.le A2.out)); (try replace A3 := Lib.hid (Lay.mono _ hk.le A3.out)); (try replace A4 := Lib.hid (Lay.mono _ hk.le A4.out)); (try replace R75 := Lib.hid (Lay.mono _ hk.le R75.out)); (try replace R82 := Lib.hid (Lay.mono _ hk.le R82.out)); (try replace R109 := Lib.hid (Lay.mono _ hk.le R109.out)); (try replace R119 := Lib.hid (Lay.mono _ hk.le R119.out)); (try replace R125 := Lib.hid (Lay.mono _ hk.le R125.out)); clear hk; obtain rfl : E82 = 0 := HE82.out.trans s2.out.1; have Mk82 := True.intro))
        go_roundw
        case rel => exact ⟨i + 1, Y75, l1, Y82, p75, q1, p82, c75, c1, c82, _, hlt, rfl, by go_num, (by rw [HY75.out]; exact s1.out.2), s3, (by rw [HY82.out]; exact s2.out.2), R75, A2, R82, hS.forget (x := .box b12 _) (by (repeat constructor))⟩
        case measure => simp [intOf]; omega
      · have hcz : (C : Int) ≤ (i : Int) := by omega
        have s1 : Hid (addX l1 K ⟨far.getD i 0, (i : Nat)⟩ = 0 ∧ InvN (addH l1 K ⟨far.getD i 0, (i : Nat)⟩) (frH far C (i + 1)) K) := by
          show _ ∧ _
          rw [frH_succ (by omega)]
          exact H1.out.step (fine_n HW.out hlt hn100) frH_new
        have s3 : Hid (InvN l0 (upH far (min (i + 1) C)) K) := by
          have := H0.out
          rw [Nat.min_eq_right (by omega)] at this
          show InvN _ _ _
          rw [Nat.min_eq_right (by omega)]
          exact this
        unfold Hn at s2
        clear H0 H1
        generalize far.getD i 0 = x at *
        go_wp2_with (first
    | ((with_reducible refine' Wl.out ?_; apply k_alloc (ty := 37) (dst := some 8) hS); (· exact .mk); clear hS; intro w8 b8 hS)
    | ((with_reducible refine' Wl.out ?_; apply k_alloc (ty := 30) (dst := some 12) hS); (· exact .mk); clear hS; intro w12 b12 hS)
    | ((with_reducible refine' Wl.out ?_; apply k_alloc (ty := 30) (dst := some 20) hS); (· exact .mk); clear hS; intro w20 b20 hS)
    | ((with_reducible refine' Wl.out ?_; apply k_load hS); (· exact .mk))
    | ((with_reducible refine' Wl.out ?_; apply k_loads hS); (· exact .mk))
    | ((with_reducible refine' Wl.out ?_; apply k_store hS); (· exact .mk); clear hS; intro ws hS)
    | ((with_reducible refine' Wl.out ?_; apply k_storeR hS); (· exact .mk); clear hS; intro ws hS)
    | ((with_reducible refine' Wl.out ?_; apply k_stores hS); (· exact .mk); clear hS; intro ws hS))
        replace hS := hS.drew
        have hle := hS.leSelf
        refine startL (S := Sx _ [(b8, _), (b12, _)]) (by kernel_rfl) ((hS.sx0.cons hS (by (repeat constructor))).cons hS (by (repeat constructor))) (fun _ _ _ _ => trivial) (fun hHeld => ?_)
        focus (refine takeN 0 (v := ?_) rfl (by kernel_rfl) ?_ ?_; rotate_left; focus (intro w hSw; clear hSw; go_simp; try with_reducible rfl))
        try simp only [Act.put, nz1, nz2, nz3]
        focus (refine takeN 1 (v := ?_) rfl (by kernel_rfl) ?_ ?_; rotate_left; focus (intro w hSw; clear hSw; go_simp; try with_reducible rfl))
        try simp only [Act.put, nz1, nz2, nz3]
        refine takeN 2 rfl (by kernel_rfl) (yield_load rfl Try.underlying24 rfl rfl (by (first | (apply FindX.box; (· (repeat constructor)); rfl) | exact FindX.mem (by assumption)))) ?_
        try simp only [Act.put, nz1, nz2, nz3]
        focus (refine takeN 3 (v := ?_) rfl (by kernel_rfl) ?_ ?_; rotate_left; focus (intro w hSw; clear hSw; go_simp; try with_reducible rfl))
        try simp only [Act.put, nz1, nz2, nz3]
        refine takeN 4 rfl (by kernel_rfl) (yield_loads rfl rowT30 rfl (by (first | (apply FindsX.box; (· (repeat constructor)); (· (repeat constructor)); done) | (refine FindsX.mem (by assumption) ?_; first | rfl | assumption | (simp; done))))) ?_
        try simp only [Act.put, nz1, nz2, nz3]
        refine wpAnyH_ready (rs := [5]) (by kernel_rfl) (by simp) ?_
        refine consL 5 rfl (fun K hK => ?_) AllReadyH.nil
        rw [if_pos (by rfl)]; go_simp; refine (letHE addH_len (badd_v _ _ hS.inw _ _ (by first | exact A1.out | exact A2.out | exact A3.out | exact A4.out | exact R75.out | exact R82.out | exact R109.out | exact R119.out | exact R125.out | exact dkL_dry A1.out | exact dkL_dry A2.out | exact dkL_dry A3.out | exact dkL_dry A4.out | exact Lay.nil_rd _ _) _ (by first | exact I0.out | exact I1.out | exact I2.out | exact inK64 (by omega) (by omega) | assumption) _ _ (by first | exact I0.out | exact I1.out | exact I2.out | exact inK64 (by omega) (by omega) | assumption) (by first | exact I0.out | exact I1.out | exact I2.out | exact inK64 (by omega) (by omega) | assumption))).mono ?_; rintro e' w75 ⟨_, m75, rfl, ⟨p75, c75, Y75, E75, HY75, HE75, rfl, R75, C75⟩, hk⟩; replace hS := hS.call hk; (try replace A1 := Lib.hid (Lay.mono _ hk.le A1.out)); (try replace A2 := Lib.hid (Lay.mono _ hk.le A2.out)); (try replace A3 := Lib.hid (Lay.mono _ hk.le A3.out)); (try replace A4 := Lib.hid (Lay.mono _ hk.le A4.out)); (try replace R75 := Lib.hid (Lay.mono _ hk.le R75.out)); (try replace R82 := Lib.hid (Lay.mono _ hk.le R82.out)); (try replace R109 := Lib.hid (Lay.mono _ hk.le R109.out)); (try replace R119 := Lib.hid (Lay.mono _ hk.le R119.out)); (try replace R125 := Lib.hid (Lay.mono _ hk.le R125.out)); replace hle := hle.trans hk.le; clear hk; obtain rfl : E75 = 0 := HE75.out.trans s1.out.1; go_wp2_with fail
        refine hK.out _ _ (by first | exact ((hS.sx0.cons hS (by (repeat constructor))).cons hS (by (repeat constructor))) | exact Sx.le (by assumption) ((hS.sx0.cons hS (by (repeat constructor))).cons hS (by (repeat constructor)))) (fun hHeld => ?_)
        clear hK K
        try simp only [Act.put, nz1, nz2, nz3]
        focus (refine takeN 6 (v := ?_) rfl (by kernel_rfl) ?_ ?_; rotate_left; focus (intro w hSw; clear hSw; go_simp; try with_reducible rfl))
        try simp only [Act.put, nz1, nz2, nz3]
        focus (refine takeN 7 (v := ?_) rfl (by kernel_rfl) ?_ ?_; rotate_left; focus (intro w hSw; clear hSw; go_simp; try with_reducible rfl))
        try simp only [Act.put, nz1, nz2, nz3]
        focus (refine takeN 8 (v := ?_) rfl (by kernel_rfl) ?_ ?_; rotate_left; focus (intro w hSw; clear hSw; go_simp; try with_reducible rfl))
        try simp only [Act.put, nz1, nz2, nz3]
        focus (refine takeN 9 (v := ?_) rfl (by kernel_rfl) ?_ ?_; rotate_left; focus (intro w hSw; clear hSw; go_simp; try with_reducible rfl))
        try simp only [Act.put, nz1, nz2, nz3]
        focus (refine takeN 10 (v := ?_) rfl (by kernel_rfl) ?_ ?_; rotate_left; focus (intro w hSw; clear hSw; go_simp; try with_reducible rfl))
        try simp only [Act.put, nz1, nz2, nz3]
        refine wpAnyH_done (by kernel_rfl) ?_ _
        refine NoPanic.normal ?_
        all_goals
          go_wp2_with (first
    | ((with_reducible refine' Wl.out ?_; apply k_alloc (ty := 37) (dst := some 8) hS); (· exact .mk); clear hS; intro w8 b8 hS)
    | ((with_reducible refine' Wl.out ?_; apply k_alloc (ty := 30) (dst := some 12) hS); (· exact .mk); clear hS; intro w12 b12 hS)
    | ((with_reducible refine' Wl.out ?_; apply k_alloc (ty := 30) (dst := some 20) hS); (· exact .mk); clear hS; intro w20 b20 hS)
    | ((with_reducible refine' Wl.out ?_; apply k_load hS); (· exact .mk))
    | ((with_reducible refine' Wl.out ?_; apply k_loads hS); (· exact .mk))
    | ((with_reducible refine' Wl.out ?_; apply k_store hS); (· exact .mk); clear hS; intro ws hS)
    | ((with_reducible refine' Wl.out ?_; apply k_storeR hS); (· exact .mk); clear hS; intro ws hS)
    | ((with_reducible refine' Wl.out ?_; apply k_stores hS); (· exact .mk); clear hS; intro ws hS)
    | (go_at_call 12; (fail_if_success (clear Mk82)); refine (letHE addH_len (badd_v _ _ hS.inw _ _ (by first | exact A1.out | exact A2.out | exact A3.out | exact A4.out | exact R75.out | exact R82.out | exact R109.out | exact R119.out | exact R125.out | exact dkL_dry A1.out | exact dkL_dry A2.out | exact dkL_dry A3.out | exact dkL_dry A4.out | exact Lay.nil_rd _ _) _ (by first | exact I0.out | exact I1.out | exact I2.out | exact inK64 (by omega) (by omega) | assumption) _ _ (by first | exact I0.out | exact I1.out | exact I2.out | exact inK64 (by omega) (by omega) | assumption) (by first | exact I0.out | exact I1.out | exact I2.out | exact inK64 (by omega) (by omega) | assumption))).mono ?_; rintro e' w82 ⟨_, m82, rfl, ⟨p82, c82, Y82, E82, HY82, HE82, rfl, R82, C82⟩, hk⟩; replace hS := hS.call hk; (try replace A1 := Lib.hid (Lay.mono _ hk.le A1.out)); (try replace A2 := Lib.hid (Lay.mono _ hk.le A2.out)); (try replace A3 := Lib.hid (Lay.mono _ hk.le A3.out)); (try replace A4 := Lib.hid (Lay.mono _ hk.le A4.out)); (try replace R75 := Lib.hid (Lay.mono _ hk.le R75.out)); (try replace R82 := Lib.hid (Lay.mono _ hk.le R82.out)); (try replace R109 := Lib.hid (Lay.mono _ hk.le R109.out)); (try replace R119 := Lib.hid (Lay.mono _ hk.le R119.out)); (try replace R125 := Lib.hid (Lay.mono _ hk.le R125.out)); clear hk; obtain rfl : E82 = 0 := HE82.out.trans s2.out.1; have Mk82 := True.intro))
        go_roundw
        case rel => exact ⟨i + 1, l0, Y75, Y82, q0, p75, p82, c0, c75, c82, _, hlt, rfl, by go_num, s3, (by rw [HY75.out]; exact s1.out.2), (by rw [HY82.out]; exact s2.out.2), A1, R75, R82, hS.forget (x := .box b12 _) (by (repeat constructor))⟩
        case measure => simp [intOf]; omega
    · obtain rfl : i = far.length := by omega
      rw [Nat.min_eq_right hC] at H0
      have hfr := Lib.hid (up_fr (far := far) hC)
      go_wp2_with (first
    | ((with_reducible refine' Wl.out ?_; apply k_alloc (ty := 37) (dst := some 8) hS); (· exact .mk); clear hS; intro w8 b8 hS)
    | ((with_reducible refine' Wl.out ?_; apply k_alloc (ty := 30) (dst := some 12) hS); (· exact .mk); clear hS; intro w12 b12 hS)
    | ((with_reducible refine' Wl.out ?_; apply k_alloc (ty := 30) (dst := some 20) hS); (· exact .mk); clear hS; intro w20 b20 hS)
    | ((with_reducible refine' Wl.out ?_; apply k_load hS); (· exact .mk))
    | ((with_reducible refine' Wl.out ?_; apply k_loads hS); (· exact .mk))
    | ((with_reducible refine' Wl.out ?_; apply k_store hS); (· exact .mk); clear hS; intro ws hS)
    | ((with_reducible refine' Wl.out ?_; apply k_storeR hS); (· exact .mk); clear hS; intro ws hS)
    | ((with_reducible refine' Wl.out ?_; apply k_stores hS); (· exact .mk); clear hS; intro ws hS))
      obtain ⟨q', c', e1, u1, u2, u3, urow⟩ := Lay.list_open A2.out
      cases e1
      have hl1 : l1.length ≤ 9223372036854775807 := by simp only [maxLen] at u2; omega
      clear u1 u2 u3 urow
      go_loopw [18, 101] (fun v18 i wr => ∃ (j : Nat) (bo : List Hit) (qb : Option Addr) (cb : Nat) (m2 : Mem), j ≤ l1.length ∧ v18 = .slice qb bo.length cb ∧ i = .int .i64 j ∧ Hid (InvN bo (l0 ++ l1.take j) K) ∧ Hid (hitL.list.rd m2 [.slice q1 l1.length c1] l1) ∧ Hid (hitL.list.rd m2 [.slice qa al.length ca] al) ∧ Hid (hitL.list.rd m2 [.slice qb bo.length cb] bo) ∧ St [] w (World.mem w) wr [.box b8 [.slice q0 l0.length c0, .slice q1 l1.length c1]] m2) (fun _ i _ => l1.length - (intOf i).toNat)
      case atStart => exact ⟨0, l0, q0, c0, _, Nat.zero_le _, rfl, rfl, (by have := H0.out.self; rw [List.take_zero, List.append_nil]; exact this), A2, A3, A1, hS⟩
      case round =>
        clear hS A1 A2 A3
        obtain ⟨j, bo, qb, cb, m2, hj, rfl, rfl, HB, A2, A3, A4, hS⟩ := hrel
        by_cases hlt : j < l1.length
        · obtain ⟨q2, c2, e2, _, _, _, urow⟩ := Lay.list_open A2.out
          cases e2
          obtain ⟨bs, os, cs, rfl, hcs, hcell⟩ := urow.get j hlt
          obtain ⟨rfl, k1, k2⟩ := hitL_open hcs
          have hcx : ∀ k v, [Value.int .i64 l1[j].dist, .int .i64 l1[j].id][k]? = some v → m2 ⟨bs, os + j * 2 + k, none⟩ = some v := hcell
          have s1 := Lib.hid (HB.out.step (H1.out.1.2.2.2.1 _ (List.getElem_mem hlt)) (part_new H0.out H1.out hlt))
          rw [List.append_assoc, ← List.take_succ_eq_append_getElem hlt] at s1
          have s2 : Hid (addX bo K ⟨l1[j].dist, l1[j].id⟩ = 0 ∧ InvN (addH bo K ⟨l1[j].dist, l1[j].id⟩) (l0 ++ l1.take (j + 1)) K) := s1.out
          have I1 := Lib.hid k1
          have I2 := Lib.hid k2
          have hjz : (j : Int) < l1.length := by omega
          clear hcs hcell urow s1 k1 k2
          generalize l1[j] = x at *
          go_wp2_with (first
    | ((with_reducible refine' Wl.out ?_; apply k_alloc (ty := 37) (dst := some 8) hS); (· exact .mk); clear hS; intro w8 b8 hS)
    | ((with_reducible refine' Wl.out ?_; apply k_alloc (ty := 30) (dst := some 12) hS); (· exact .mk); clear hS; intro w12 b12 hS)
    | ((with_reducible refine' Wl.out ?_; apply k_alloc (ty := 30) (dst := some 20) hS); (· exact .mk); clear hS; intro w20 b20 hS)
    | ((with_reducible refine' Wl.out ?_; apply k_load hS); (· exact .mk))
    | ((with_reducible refine' Wl.out ?_; apply k_loads hS); (· exact .mk))
    | ((with_reducible refine' Wl.out ?_; apply k_store hS); (· exact .mk); clear hS; intro ws hS)
    | ((with_reducible refine' Wl.out ?_; apply k_storeR hS); (· exact .mk); clear hS; intro ws hS)
    | ((with_reducible refine' Wl.out ?_; apply k_stores hS); (· exact .mk); clear hS; intro ws hS)
    | (go_at_call 12; (fail_if_success (clear Mk109)); refine (letHE addH_len (badd_v _ _ hS.inw _ _ (by first | exact A1.out | exact A2.out | exact A3.out | exact A4.out | exact R75.out | exact R82.out | exact R109.out | exact R119.out | exact R125.out | exact dkL_dry A1.out | exact dkL_dry A2.out | exact dkL_dry A3.out | exact dkL_dry A4.out | exact Lay.nil_rd _ _) _ (by first | exact I0.out | exact I1.out | exact I2.out | exact inK64 (by omega) (by omega) | assumption) _ _ (by first | exact I0.out | exact I1.out | exact I2.out | exact inK64 (by omega) (by omega) | assumption) (by first | exact I0.out | exact I1.out | exact I2.out | exact inK64 (by omega) (by omega) | assumption))).mono ?_; rintro e' w109 ⟨_, m109, rfl, ⟨p109, c109, Y109, E109, HY109, HE109, rfl, R109, C109⟩, hk⟩; replace hS := hS.call hk; (try replace A1 := Lib.hid (Lay.mono _ hk.le A1.out)); (try replace A2 := Lib.hid (Lay.mono _ hk.le A2.out)); (try replace A3 := Lib.hid (Lay.mono _ hk.le A3.out)); (try replace A4 := Lib.hid (Lay.mono _ hk.le A4.out)); (try replace R75 := Lib.hid (Lay.mono _ hk.le R75.out)); (try replace R82 := Lib.hid (Lay.mono _ hk.le R82.out)); (try replace R109 := Lib.hid (Lay.mono _ hk.le R109.out)); (try replace R119 := Lib.hid (Lay.mono _ hk.le R119.out)); (try replace R125 := Lib.hid (Lay.mono _ hk.le R125.out)); clear hk; obtain rfl : E109 = 0 := HE109.out.trans s2.out.1; have Mk109 := True.intro))
          go_roundw
          case rel => exact ⟨j + 1, Y109, p109, c109, _, hlt, rfl, by go_num, (by rw [HY109.out]; exact s2.out.2), A2, A3, R109, hS.forget (x := .box b20 _) (by (repeat constructor))⟩
          case measure => simp [intOf]; omega
        · obtain rfl : j = l1.length := by omega
          rw [List.take_length] at HB
          have hb := Lib.hid (H0.out.both H1.out HB.out)
          have t1 := Lib.hid HB.out.sorted
          have t2 := Lib.hid H2.out.sorted
          go_wp2_with (first
    | ((with_reducible refine' Wl.out ?_; apply k_alloc (ty := 37) (dst := some 8) hS); (· exact .mk); clear hS; intro w8 b8 hS)
    | ((with_reducible refine' Wl.out ?_; apply k_alloc (ty := 30) (dst := some 12) hS); (· exact .mk); clear hS; intro w12 b12 hS)
    | ((with_reducible refine' Wl.out ?_; apply k_alloc (ty := 30) (dst := some 20) hS); (· exact .mk); clear hS; intro w20 b20 hS)
    | ((with_reducible refine' Wl.out ?_; apply k_load hS); (· exact .mk))
    | ((with_reducible refine' Wl.out ?_; apply k_loads hS); (· exact .mk))
    | ((with_reducible refine' Wl.out ?_; apply k_store hS); (· exact .mk); clear hS; intro ws hS)
    | ((with_reducible refine' Wl.out ?_; apply k_storeR hS); (· exact .mk); clear hS; intro ws hS)
    | ((with_reducible refine' Wl.out ?_; apply k_stores hS); (· exact .mk); clear hS; intro ws hS)
    | (go_at_call 14; (fail_if_success (clear Mk119)); refine (letHE sortH_len (bsorted_c _ _ hS.inw _ _ (by first | exact A1.out | exact A2.out | exact A3.out | exact A4.out | exact R75.out | exact R82.out | exact R109.out | exact R119.out | exact R125.out | exact dkL_dry A1.out | exact dkL_dry A2.out | exact dkL_dry A3.out | exact dkL_dry A4.out | exact Lay.nil_rd _ _) _ (by first | exact I0.out | exact I1.out | exact I2.out | exact inK64 (by omega) (by omega) | assumption))).mono ?_; rintro e' w119 ⟨_, m119, rfl, ⟨p119, c119, Y119, E119, HY119, HE119, rfl, R119, C119⟩, hk⟩; replace hS := hS.call hk; (try replace A1 := Lib.hid (Lay.mono _ hk.le A1.out)); (try replace A2 := Lib.hid (Lay.mono _ hk.le A2.out)); (try replace A3 := Lib.hid (Lay.mono _ hk.le A3.out)); (try replace A4 := Lib.hid (Lay.mono _ hk.le A4.out)); (try replace R75 := Lib.hid (Lay.mono _ hk.le R75.out)); (try replace R82 := Lib.hid (Lay.mono _ hk.le R82.out)); (try replace R109 := Lib.hid (Lay.mono _ hk.le R109.out)); (try replace R119 := Lib.hid (Lay.mono _ hk.le R119.out)); (try replace R125 := Lib.hid (Lay.mono _ hk.le R125.out)); clear hk; obtain rfl : E119 = 0 := HE119.out.trans t1.out.2; have Mk119 := True.intro)
    | (go_at_call 14; (fail_if_success (clear Mk125)); refine (letHE sortH_len (bsorted_c _ _ hS.inw _ _ (by first | exact A1.out | exact A2.out | exact A3.out | exact A4.out | exact R75.out | exact R82.out | exact R109.out | exact R119.out | exact R125.out | exact dkL_dry A1.out | exact dkL_dry A2.out | exact dkL_dry A3.out | exact dkL_dry A4.out | exact Lay.nil_rd _ _) _ (by first | exact I0.out | exact I1.out | exact I2.out | exact inK64 (by omega) (by omega) | assumption))).mono ?_; rintro e' w125 ⟨_, m125, rfl, ⟨p125, c125, Y125, E125, HY125, HE125, rfl, R125, C125⟩, hk⟩; replace hS := hS.call hk; (try replace A1 := Lib.hid (Lay.mono _ hk.le A1.out)); (try replace A2 := Lib.hid (Lay.mono _ hk.le A2.out)); (try replace A3 := Lib.hid (Lay.mono _ hk.le A3.out)); (try replace A4 := Lib.hid (Lay.mono _ hk.le A4.out)); (try replace R75 := Lib.hid (Lay.mono _ hk.le R75.out)); (try replace R82 := Lib.hid (Lay.mono _ hk.le R82.out)); (try replace R109 := Lib.hid (Lay.mono _ hk.le R109.out)); (try replace R119 := Lib.hid (Lay.mono _ hk.le R119.out)); (try replace R125 := Lib.hid (Lay.mono _ hk.le R125.out)); clear hk; obtain rfl : E125 = 0 := HE125.out.trans t2.out.2; have Mk125 := True.intro)
    | (go_at_call 15; (fail_if_success (clear Mk140)); refine (letB (same16_c _ _ hS.inw _ _ _ _ (by first | exact A1.out | exact A2.out | exact A3.out | exact A4.out | exact R75.out | exact R82.out | exact R109.out | exact R119.out | exact R125.out | exact dkL_dry A1.out | exact dkL_dry A2.out | exact dkL_dry A3.out | exact dkL_dry A4.out | exact Lay.nil_rd _ _) (by first | exact A1.out | exact A2.out | exact A3.out | exact A4.out | exact R75.out | exact R82.out | exact R109.out | exact R119.out | exact R125.out | exact dkL_dry A1.out | exact dkL_dry A2.out | exact dkL_dry A3.out | exact dkL_dry A4.out | exact Lay.nil_rd _ _))).mono ?_; rintro e' w140 ⟨_, m140, rfl, ⟨B140, HB140, rfl⟩, hk⟩; replace hS := hS.call hk; (try replace A1 := Lib.hid (Lay.mono _ hk.le A1.out)); (try replace A2 := Lib.hid (Lay.mono _ hk.le A2.out)); (try replace A3 := Lib.hid (Lay.mono _ hk.le A3.out)); (try replace A4 := Lib.hid (Lay.mono _ hk.le A4.out)); (try replace R75 := Lib.hid (Lay.mono _ hk.le R75.out)); (try replace R82 := Lib.hid (Lay.mono _ hk.le R82.out)); (try replace R109 := Lib.hid (Lay.mono _ hk.le R109.out)); (try replace R119 := Lib.hid (Lay.mono _ hk.le R119.out)); (try replace R125 := Lib.hid (Lay.mono _ hk.le R125.out)); clear hk; obtain rfl : B140 = true := HB140.out.trans (decide_eq_true (by rw [HY119.out, HY125.out, t2.out.1, ← hfr.out, ← hb.out]; exact if_pos HB.out.1)); have Mk140 := True.intro))
          all_goals (first | (go_ret; exact ⟨rfl, hS.below⟩) | (go_ret; refine ⟨?_, hS.below⟩; simp; done))
end Go.Proofs.Ytlkdjmpkapeppaa
