/- The law's few, where no codes and no books are; the references' Few: whatever they say. -/
import Derived.Test.YtnbhhdncbajkgaaGreatDoorSc4G
namespace Go.Proofs.YtnbhhdncbajkgaaGreatDoor
set_option linter.unusedVariables false
set_option linter.unusedSimpArgs false
open Go.RowKit Go.Shelf
abbrev RetB (w : World) (m : Mem) : Ending → World → Prop := Ret w m fun v _ => ∃ B, v = .bool B
set_option maxRecDepth 100000 in
set_option maxHeartbeats 4000000 in
theorem few10_c (m : Mem) (w : World) (hm : m.In w) (q1 q2 : Option Addr) (c1 c2 : Nat) (s : Sl) (h : slL.rd m [.int .i64 s.dim, .slice q1 s.ids.length c1, .slice q2 s.vecs.length c2] s) :
    Calls Tryz.prog 7 #[.agg #[.int .i64 s.dim, .slice q1 s.ids.length c1, .slice q2 s.vecs.length c2]] w (RetB w m) := by
  have hS := St.start hm
  obtain ⟨_, _, _, _, e, hd, h1, h2⟩ := slL_open h
  cases e
  obtain ⟨_, _, e2, _, m2, _, r2⟩ := Lay.list_open h2
  cases e2
  have HV := Lib.hid r2
  have hl2 : s.vecs.length ≤ 9223372036854775807 := by simp only [maxLen] at m2; omega
  clear h h1 h2 r2
  go_enter Tryz.func7, Tryz.ntmps7
  go_wp2_with (first
    | ((with_reducible refine' Wl.out ?_; apply k_box (ty := 32) (y := (.tmp 0)) hS); (· exact .mk); clear hS; intro w1 b1 hS)
    | ((with_reducible refine' Wl.out ?_; apply k_load hS); (· exact .mk))
    | go_skip
    | ((with_reducible refine' Wl.out ?_; apply kg_load hS); iterate 2 (· exact .mk))
    | ((with_reducible refine' Wl.out ?_; refine' wg_case ?_ ?_) <;> (intro hgW; (try (have hg2 := hgW; simp [go_sem] at hg2)); (first | (exfalso; assumption) | ((with_reducible refine' Wl.out ?_; apply k_no hgW)) | ((with_reducible refine' Wl.out ?_; apply kg_load hS ⟨hgW⟩); (· exact .mk))); clear hgW)))
  go_loopw [8] (fun vi wr => ∃ k : Nat, k ≤ s.vecs.length ∧ vi = .int .i64 k ∧ St [] w m wr [.box b1 [.int .i64 s.dim, .slice q1 s.ids.length c1, .slice q2 s.vecs.length c2]] m) (fun vi _ => s.vecs.length - (intOf vi).toNat)
  case atStart => exact ⟨0, Nat.zero_le _, rfl, hS⟩
  case round =>
    clear hS
    obtain ⟨k, hk, rfl, hS⟩ := hrel
    by_cases hlt : k < s.vecs.length
    · obtain ⟨bv, ov, q, c, rfl, hcv, hrd⟩ := HV.out.listAt k hlt
      have hkz : (k : Int) < s.vecs.length := by omega
      clear hrd
      generalize s.vecs.getD k [] = v at *
      by_cases hbig : (100 : Int) < v.length
      · go_wp2_with (first
    | ((with_reducible refine' Wl.out ?_; apply k_box (ty := 32) (y := (.tmp 0)) hS); (· exact .mk); clear hS; intro w1 b1 hS)
    | ((with_reducible refine' Wl.out ?_; apply k_load hS); (· exact .mk))
    | go_skip
    | ((with_reducible refine' Wl.out ?_; apply kg_load hS); iterate 2 (· exact .mk))
    | ((with_reducible refine' Wl.out ?_; refine' wg_case ?_ ?_) <;> (intro hgW; (try (have hg2 := hgW; simp [go_sem] at hg2)); (first | (exfalso; assumption) | ((with_reducible refine' Wl.out ?_; apply k_no hgW)) | ((with_reducible refine' Wl.out ?_; apply kg_load hS ⟨hgW⟩); (· exact .mk))); clear hgW)))
        go_ret
        exact ⟨_, m, rfl, ⟨_, rfl⟩, hS.done⟩
      · go_wp2_with (first
    | ((with_reducible refine' Wl.out ?_; apply k_box (ty := 32) (y := (.tmp 0)) hS); (· exact .mk); clear hS; intro w1 b1 hS)
    | ((with_reducible refine' Wl.out ?_; apply k_load hS); (· exact .mk))
    | go_skip
    | ((with_reducible refine' Wl.out ?_; apply kg_load hS); iterate 2 (· exact .mk))
    | ((with_reducible refine' Wl.out ?_; refine' wg_case ?_ ?_) <;> (intro hgW; (try (have hg2 := hgW; simp [go_sem] at hg2)); (first | (exfalso; assumption) | ((with_reducible refine' Wl.out ?_; apply k_no hgW)) | ((with_reducible refine' Wl.out ?_; apply kg_load hS ⟨hgW⟩); (· exact .mk))); clear hgW)))
        go_roundw
        case rel => exact ⟨k + 1, hlt, by go_num, hS⟩
        case measure => simp [intOf]; omega
    · obtain rfl : k = s.vecs.length := by omega
      go_wp2_with (first
    | ((with_reducible refine' Wl.out ?_; apply k_box (ty := 32) (y := (.tmp 0)) hS); (· exact .mk); clear hS; intro w1 b1 hS)
    | ((with_reducible refine' Wl.out ?_; apply k_load hS); (· exact .mk))
    | go_skip
    | ((with_reducible refine' Wl.out ?_; apply kg_load hS); iterate 2 (· exact .mk))
    | ((with_reducible refine' Wl.out ?_; refine' wg_case ?_ ?_) <;> (intro hgW; (try (have hg2 := hgW; simp [go_sem] at hg2)); (first | (exfalso; assumption) | ((with_reducible refine' Wl.out ?_; apply k_no hgW)) | ((with_reducible refine' Wl.out ?_; apply kg_load hS ⟨hgW⟩); (· exact .mk))); clear hgW)))
      all_goals
        go_ret
        exact ⟨_, m, rfl, ⟨_, rfl⟩, hS.done⟩
end Go.Proofs.YtnbhhdncbajkgaaGreatDoor
