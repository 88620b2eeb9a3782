/- The reference's Same at vectors: of what is the same it says so. -/
import Derived.Test.YtdeeclnjkjapcaaDoorG2
namespace Go.Proofs.YtdeeclnjkjapcaaDoor
set_option linter.unusedVariables false
set_option linter.unusedSimpArgs false
open Go.RowKit Go.Shelf
set_option maxRecDepth 100000 in
set_option maxHeartbeats 4000000 in
theorem r4same_t (m : Mem) (w : World) (hm : m.In w) (v u : Value) (a : List Int) (ha : vecL.rd m [v] a) (hb : vecL.rd m [u] a) :
    Calls Tryd.prog 8 #[v, u] w (Ret w m fun v _ => v = .bool true) := by
  have hS := St.start hm
  obtain ⟨p, c, rfl, _, a2, _, ra⟩ := Lay.list_open ha
  obtain ⟨q, d, rfl, _, _, _, rb⟩ := Lay.list_open hb
  have HA := Lib.hid ra
  have HB := Lib.hid rb
  have hla : a.length ≤ 9223372036854775807 := by simp only [maxLen] at a2; omega
  clear ha hb ra rb a2
  have hl2 : ((a.length : Int) != a.length) = false := by simp
  go_enter Tryd.func8, Tryd.ntmps8
  go_wp2_with (first
    | ((with_reducible refine' Wl.out ?_; apply k_load hS); (· exact .mk)))
  go_loopw [13] (fun i wr => ∃ k : Nat, k ≤ a.length ∧ i = .int .i64 k ∧ St [] w m wr [] m) (fun i _ => a.length - (intOf i).toNat)
  case atStart => exact ⟨0, Nat.zero_le _, rfl, hS⟩
  case round =>
    clear hS
    obtain ⟨k, hk, rfl, hS⟩ := hrel
    by_cases hlt : k < a.length
    · obtain ⟨b1, o1, rfl, hcx, _⟩ := HA.out.intAt k hlt
      obtain ⟨b2, o2, rfl, hcy, _⟩ := HB.out.intAt k hlt
      have hka : (k : Int) < a.length := by omega
      generalize a.getD k 0 = x at *
      have hxy : (x != x) = false := by simp
      go_wp2_with (first
    | ((with_reducible refine' Wl.out ?_; apply k_load hS); (· exact .mk)))
      replace hS := hS.drew
      refine startL (S := Sx _ []) (by kernel_rfl) hS.sx0 (fun _ _ _ _ => trivial) (fun hHeld => ?_)
      focus (refine takeN 0 (v := ?_) rfl (by kernel_rfl) ?_ ?_; rotate_left; focus (intro w hSw; clear hSw; go_simp; try with_reducible rfl))
      try simp only [Act.put, nz1, nz2, nz3]
      focus (refine takeN 1 (v := ?_) rfl (by kernel_rfl) ?_ ?_; rotate_left; focus (intro w hSw; clear hSw; go_simp; try with_reducible rfl))
      try simp only [Act.put, nz1, nz2, nz3]
      focus (refine takeN 2 (v := ?_) rfl (by kernel_rfl) ?_ ?_; rotate_left; focus (intro w hSw; clear hSw; go_simp; try with_reducible rfl))
      try simp only [Act.put, nz1, nz2, nz3]
      refine takeN 3 rfl (by kernel_rfl) (yield_load rfl Tryd.underlying50 rfl rfl (by (first | (apply FindX.box; (· (repeat constructor)); rfl) | exact FindX.mem (by assumption)))) ?_
      try simp only [Act.put, nz1, nz2, nz3]
      focus (refine takeN 4 (v := ?_) rfl (by kernel_rfl) ?_ ?_; rotate_left; focus (intro w hSw; clear hSw; go_simp; try with_reducible rfl))
      try simp only [Act.put, nz1, nz2, nz3]
      focus (refine takeN 5 (v := ?_) rfl (by kernel_rfl) ?_ ?_; rotate_left; focus (intro w hSw; clear hSw; go_simp; try with_reducible rfl))
      try simp only [Act.put, nz1, nz2, nz3]
      focus (refine takeN 6 (v := ?_) rfl (by kernel_rfl) ?_ ?_; rotate_left; focus (intro w hSw; clear hSw; go_simp; try with_reducible rfl))
      try simp only [Act.put, nz1, nz2, nz3]
      refine takeN 7 rfl (by kernel_rfl) (yield_load rfl Tryd.underlying50 rfl rfl (by (first | (apply FindX.box; (· (repeat constructor)); rfl) | exact FindX.mem (by assumption)))) ?_
      try simp only [Act.put, nz1, nz2, nz3]
      focus (refine takeN 8 (v := ?_) rfl (by kernel_rfl) ?_ ?_; rotate_left; focus (intro w hSw; clear hSw; go_simp; try with_reducible rfl))
      try simp only [Act.put, nz1, nz2, nz3]
      refine wpAnyH_done (by kernel_rfl) ?_ _
      refine NoPanic.normal ?_
      all_goals go_wp2_with fail
      go_roundw
      case rel => exact ⟨k + 1, hlt, by go_num, hS⟩
      case measure => simp [intOf]; omega
    · have hka : ¬ (k : Int) < a.length := by omega
      go_wp2_with (first
    | ((with_reducible refine' Wl.out ?_; apply k_load hS); (· exact .mk)))
      go_ret
      exact ⟨_, m, rfl, rfl, hS⟩
end Go.Proofs.YtdeeclnjkjapcaaDoor
