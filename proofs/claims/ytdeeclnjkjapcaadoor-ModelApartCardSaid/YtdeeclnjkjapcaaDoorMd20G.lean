/- slices.Equal at hits, model.SameReply: of what is the same they say so. -/
import Derived.Test.YtdeeclnjkjapcaaDoorG4
namespace Go.Proofs.YtdeeclnjkjapcaaDoor
set_option linter.unusedVariables false
set_option linter.unusedSimpArgs false
open Go.RowKit Go.Shelf
set_option maxRecDepth 100000 in
set_option maxHeartbeats 4000000 in
theorem heq_c (m : Mem) (w : World) (hm : m.In w) (v u : Value) (a : List Hit) (ha : hitL.list.rd m [v] a) (hb : hitL.list.rd m [u] a) :
    Calls Tryd.prog 25 #[v, u] w (Ret w m fun v _ => v = .bool true) := by
  have hS := St.start hm
  obtain ⟨p, c, rfl, _, a2, _, ra⟩ := Lay.list_open ha
  obtain ⟨q, d, rfl, _, _, _, rb⟩ := Lay.list_open hb
  have HA := Lib.hid ra
  have HB := Lib.hid rb
  have hla : a.length ≤ 9223372036854775807 := by simp only [maxLen] at a2; omega
  clear ha hb ra rb a2
  have hl2 : ((a.length : Int) != a.length) = false := by simp
  go_enter Tryd.func25, Tryd.ntmps25
  go_wp2_with fail
  go_loopw [13] (fun i wr => ∃ k : Nat, k ≤ a.length ∧ i = .int .i64 k ∧ St [] w m wr [] m) (fun i _ => a.length - (intOf i).toNat)
  case atStart => exact ⟨0, Nat.zero_le _, rfl, hS⟩
  case round =>
    clear hS
    obtain ⟨k, hk, rfl, hS⟩ := hrel
    by_cases hlt : k < a.length
    · obtain ⟨b1, o1, cs1, rfl, hcs1, hc1⟩ := HA.out.get k hlt
      obtain ⟨b2, o2, cs2, rfl, hcs2, hc2⟩ := HB.out.get k hlt
      obtain ⟨rfl, i1, i2⟩ := hitL_open hcs1
      obtain ⟨rfl, j1, j2⟩ := hitL_open hcs2
      have hcx : ∀ j v, [Value.int .i64 a[k].dist, .int .i64 a[k].id][j]? = some v → m ⟨b1, o1 + k * 2 + j, none⟩ = some v := hc1
      have hcy : ∀ j v, [Value.int .i64 a[k].dist, .int .i64 a[k].id][j]? = some v → m ⟨b2, o2 + k * 2 + j, none⟩ = some v := hc2
      have hka : (k : Int) < a.length := by omega
      clear hcs1 hcs2 hc1 hc2 HA HB
      generalize a[k] = x at *
      go_wp2_with (first 
    | ((with_reducible refine' Wl.out ?_; apply k_loads hS); (· exact .mk)))
      replace hS := hS.drew
      refine startL (S := Sx _ []) (by kernel_rfl) hS.sx0 (fun _ _ _ _ => trivial) (fun hHeld => ?_)
      focus (refine takeN 0 (v := ?_) rfl (by kernel_rfl) ?_ ?_; rotate_left; focus (intro w hSw; clear hSw; go_simp; try with_reducible rfl))
      try simp only [Act.put, nz1, nz2, nz3]
      focus (refine takeN 1 (v := ?_) rfl (by kernel_rfl) ?_ ?_; rotate_left; focus (intro w hSw; clear hSw; go_simp; try with_reducible rfl))
      try simp only [Act.put, nz1, nz2, nz3]
      focus (refine takeN 2 (v := ?_) rfl (by kernel_rfl) ?_ ?_; rotate_left; focus (intro w hSw; clear hSw; go_simp; try with_reducible rfl))
      try simp only [Act.put, nz1, nz2, nz3]
      refine takeN 3 rfl (by kernel_rfl) (yield_loads rfl rowT67 rfl (by (first | (apply FindsX.box; (· (repeat constructor)); (· (repeat constructor)); done) | (refine FindsX.mem (by assumption) ?_; first | rfl | assumption | (simp; done))))) ?_
      try simp only [Act.put, nz1, nz2, nz3]
      focus (refine takeN 4 (v := ?_) rfl (by kernel_rfl) ?_ ?_; rotate_left; focus (intro w hSw; clear hSw; go_simp; try with_reducible rfl))
      try simp only [Act.put, nz1, nz2, nz3]
      focus (refine takeN 5 (v := ?_) rfl (by kernel_rfl) ?_ ?_; rotate_left; focus (intro w hSw; clear hSw; go_simp; try with_reducible rfl))
      try simp only [Act.put, nz1, nz2, nz3]
      focus (refine takeN 6 (v := ?_) rfl (by kernel_rfl) ?_ ?_; rotate_left; focus (intro w hSw; clear hSw; go_simp; try with_reducible rfl))
      try simp only [Act.put, nz1, nz2, nz3]
      refine takeN 7 rfl (by kernel_rfl) (yield_loads rfl rowT67 rfl (by (first | (apply FindsX.box; (· (repeat constructor)); (· (repeat constructor)); done) | (refine FindsX.mem (by assumption) ?_; first | rfl | assumption | (simp; done))))) ?_
      try simp only [Act.put, nz1, nz2, nz3]
      focus (refine takeN 8 (v := ?_) rfl (by kernel_rfl) ?_ ?_; rotate_left; focus (intro w hSw; clear hSw; go_simp; try with_reducible rfl))
      try simp only [Act.put, nz1, nz2, nz3]
      refine wpAnyH_done (by kernel_rfl) ?_ _
      refine NoPanic.normal ?_
      all_goals go_wp2_with fail
      go_roundw
      case rel => exact ⟨k + 1, hlt, by go_num, hS⟩
      case measure => simp [intOf]; omega
    · have hka : ¬ (k : Int) < a.length := by omega
      go_wp2_with fail
      go_ret
      exact ⟨_, m, rfl, rfl, hS.done⟩
set_option maxRecDepth 100000 in
set_option maxHeartbeats 4000000 in
theorem msr_c (m : Mem) (w : World) (hm : m.In w) (P Q : Rp) (pv qv : Option Addr) (cv dv : Nat) (ph qh : Option Addr) (ch dh : Nat) (h1 : vecL.rd m [.slice pv P.v.length cv] P.v) (h2 : vecL.rd m [.slice qv Q.v.length dv] Q.v) (h3 : hitL.list.rd m [.slice ph P.hits.length ch] P.hits) (h4 : hitL.list.rd m [.slice qh Q.hits.length dh] Q.hits) (hPQ : P = Q) :
    Calls Tryd.prog 12 #[.agg #[.int .i64 P.e, .slice pv P.v.length cv, .slice ph P.hits.length ch, .int .i64 P.n], .agg #[.int .i64 Q.e, .slice qv Q.v.length dv, .slice qh Q.hits.length dh, .int .i64 Q.n]] w (Ret w m fun v _ => v = .bool true) := by
  have hS := St.start hm
  have A0 := Lib.hid h1
  have A1 := Lib.hid h2
  have A2 := Lib.hid h3
  have A3 : Hid (hitL.list.rd m [.slice qh Q.hits.length dh] P.hits) := by show hitL.list.rd _ _ _; rw [hPQ]; exact h4
  have HE : Hid (decide (P.v = Q.v) = true) := decide_eq_true (by rw [hPQ])
  have k1 : (P.e == Q.e) = true := by rw [hPQ]; simp
  have k2 : (P.n == Q.n) = true := by rw [hPQ]; simp
  clear h1 h2 h3 h4 hPQ
  go_enter Tryd.func12, Tryd.ntmps12
  go_wp2_with (first
    | ((with_reducible refine' Wl.out ?_; apply k_box (ty := 37) (y := (.tmp 0)) hS); (· exact .mk); clear hS; intro w2 b2 hS)
    | ((with_reducible refine' Wl.out ?_; apply k_box hS); (· exact .mk); clear hS; intro _ _ hS)
    | ((with_reducible refine' Wl.out ?_; apply k_load hS); (· exact .mk))
    | go_skip
    | ((with_reducible refine' Wl.out ?_; apply kg_load hS); iterate 2 (· exact .mk))
    | ((with_reducible refine' Wl.out ?_; refine' wg_case ?_ ?_) <;> (intro hgW; (try (have hg2 := hgW; simp [go_sem] at hg2)); (first | (exfalso; assumption) | ((with_reducible refine' Wl.out ?_; apply k_no hgW)) | ((with_reducible refine' Wl.out ?_; apply kg_load hS ⟨hgW⟩); (· exact .mk))); clear hgW))
    | (go_at_call 23; refine (vsame_c m _ hS.inw _ _ _ _ A0.out A1.out).mono ?_; rintro e' w22 ⟨_, m22, rfl, rfl, hk2⟩; replace hS := hS.grow (grownBy_of_below hk2.below); clear hk2; rw [HE.out])
    | (go_at_call 25; refine (heq_c m _ hS.inw _ _ _ A2.out A3.out).mono ?_; rintro e' w29 ⟨_, m29, rfl, rfl, hk2⟩; replace hS := hS.grow (grownBy_of_below hk2.below); clear hk2))
  go_ret
  exact ⟨_, m, rfl, rfl, hS.done⟩
end Go.Proofs.YtdeeclnjkjapcaaDoor
