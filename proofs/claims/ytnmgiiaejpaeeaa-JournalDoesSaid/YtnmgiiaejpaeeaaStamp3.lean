/- Contracts of package stamp: split, Open, Mix. -/
import Derived.Test.YtnmgiiaejpaeeaaProg
import Derived.Test.YtnmgiiaejpaeeaaStampP
import Derived.StillTailTactics
namespace Go.Proofs.Ytnmgiiaejpaeeaa
set_option linter.unusedVariables false
set_option linter.unusedSimpArgs false
open Go.RowKit

theorem Rd.part {k : IntKind} {w : World} {b o : Nat} {xs : List Int} (h : ∀ i, i < xs.length → w.cell? ⟨b, o + i, none⟩ = some (.int k (xs.getD i 0))) (j : Nat) : Rd k w (some ⟨b, o + j, none⟩) (xs.drop j) := fun _ => by
  refine ⟨b, o + j, rfl, fun i hi => ?_⟩
  rw [Nat.add_assoc, h (j + i) (by simp at hi; omega)]
  simp [List.getD]
theorem list32 {α : Type} {l : List α} (h : l.length = 32) : ∃ a0 a1 a2 a3 a4 a5 a6 a7 b0 b1 b2 b3 b4 b5 b6 b7 b8 b9 b10 b11 b12 b13 b14 b15 c0 c1 c2 c3 c4 c5 c6 c7,
    l = [a0, a1, a2, a3, a4, a5, a6, a7, b0, b1, b2, b3, b4, b5, b6, b7, b8, b9, b10, b11, b12, b13, b14, b15, c0, c1, c2, c3, c4, c5, c6, c7] := by
  match l, h with
  | [a0, a1, a2, a3, a4, a5, a6, a7, b0, b1, b2, b3, b4, b5, b6, b7, b8, b9, b10, b11, b12, b13, b14, b15, c0, c1, c2, c3, c4, c5, c6, c7], _ => exact ⟨_, _, _, _, _, _, _, _, _, _, _, _, _, _, _, _, _, _, _, _, _, _, _, _, _, _, _, _, _, _, _, _, rfl⟩

set_option maxRecDepth 100000 in
set_option maxHeartbeats 4000000 in
theorem split_any (b o c : Nat) (xs : List Int) (w : World) (h32 : xs.length = 32) (hc : 32 ≤ c) (hm : c ≤ 9223372036854775807) (hr : ∀ i, i < xs.length → w.cell? ⟨b, o + i, none⟩ = some (.int .u8 (xs.getD i 0))) :
    Calls Try.prog 67 #[.slice (some ⟨b, o, none⟩) 32 c] w fun e w' => e = .returned (.agg (xs.map (.int .u8)).toArray) ∧ Below w.heap.size w w' := by
  have r0 : Rd .u8 w (some ⟨b, o, none⟩) xs := by have := Rd.part hr 0; simpa using this
  have r1 : Rd .u8 w (some ⟨b, o + 8, none⟩) (xs.drop 8) := Rd.part hr 8
  have r2 : Rd .u8 w (some ⟨b, o + 24, none⟩) (xs.drop 24) := Rd.part hr 24
  have e1 : (xs.drop 8).length = 24 := by simp [h32]
  have e2 : (xs.drop 24).length = 8 := by simp [h32]
  obtain ⟨n0, hn0⟩ : ∃ n, n = xs.length := ⟨_, rfl⟩
  obtain ⟨l1, hl1⟩ : ∃ l, l = xs.drop 8 := ⟨_, rfl⟩
  obtain ⟨l2, hl2⟩ : ∃ l, l = xs.drop 24 := ⟨_, rfl⟩
  rw [← hl1] at r1 e1
  rw [← hl2] at r2 e2
  have fin : splice (splice (splice (List.replicate 32 (Value.int .u8 0)) 0 ((xs.map (.int .u8)).take 8)) 8 ((l1.map (.int .u8)).take 16)) 24 ((l2.map (.int .u8)).take 8) = xs.map (.int .u8) := by
    subst hl1 hl2
    obtain ⟨a0, a1, a2, a3, a4, a5, a6, a7, b0, b1, b2, b3, b4, b5, b6, b7, b8, b9, b10, b11, b12, b13, b14, b15, c0, c1, c2, c3, c4, c5, c6, c7, rfl⟩ := list32 h32
    rfl
  obtain ⟨L1, q1⟩ : ∃ L, L = splice (List.replicate 32 (Value.int .u8 0)) 0 ((xs.map (.int .u8)).take 8) := ⟨_, rfl⟩
  obtain ⟨L2, q2⟩ : ∃ L, L = splice L1 8 ((l1.map (.int .u8)).take 16) := ⟨_, rfl⟩
  have n1 : 32 ≤ L1.length := by rw [q1, length_splice _ _ _ (by simp; omega)]; simp
  have n2 : 32 ≤ L2.length := by rw [q2, length_splice _ _ _ (by simp; omega)]; omega
  rw [← q1, ← q2] at fin
  have Q1 := Lib.hid q1; have Q2 := Lib.hid q2
  have hi91 : (Try.prog.info? 91).map (·.size) = some ((xs.map (Value.int .u8)).toArray).size := by
    rw [show ((xs.map (Value.int .u8)).toArray).size = 32 by simp [h32]]; kernel_rfl
  have one : ((xs.map (Value.int .u8)).toArray).all (·.oneCell') = true := by simp [Value.oneCell']
  have HI := Lib.hid hi91; have ONE := Lib.hid one
  clear hi91 one
  have F := Lib.hid fin; have E1 := Lib.hid e1; have E2 := Lib.hid e2; have H32 := Lib.hid h32
  clear fin e1 e2 hr h32 hn0 hl1 hl2 q1 q2
  have hc8 : ¬ c = 8 := by omega
  have hc24 : ¬ c = 24 := by omega
  go_enter Try.func67, Try.ntmps67
  go_wp2_with (refine wpList_copy_rds rfl (.tmp 4) (.tmp 5) 22 22 rfl 5 Try.underlying22 (by kernel_rfl) _ _ _ _ _ .u8 xs _ rfl (by rw [H32.out]; rfl) (List.replicate 32 (Value.int .u8 0)) 91 (heap_alloc_new _ _) (r0.below (below_new _ _)) (by simp; omega) w.heap.size w (below_new _ _) (Nat.le_refl _) ?_; intro W1 hW1 hb1 hg1)
  rw [← Q1.out] at hW1
  clear hg1
  go_still_tail 4, (by kernel_rfl)
  change wpList _ _ _ _ _ W1.drew
  go_wp2_with (refine wpList_copy_rds rfl (.tmp 8) (.tmp 10) 22 22 rfl 5 Try.underlying22 (by kernel_rfl) _ _ _ _ _ .u8 l1 _ rfl (by rw [E1.out]; rfl) L1 91 hW1 (r1.below hb1.drew) (by omega) w.heap.size w hb1.drew (Nat.le_refl _) ?_; intro W2 hW2 hb2 hg2)
  rw [← Q2.out] at hW2
  clear hg2 hW1 hb1
  go_still_tail 4, (by kernel_rfl)
  change wpList _ _ _ _ _ W2.drew
  go_wp2_with (first
    | (refine wpList_copy_rds rfl (.tmp 13) (.tmp 15) 22 22 rfl 5 Try.underlying22 (by kernel_rfl) _ _ _ _ _ .u8 l2 _ rfl (by rw [E2.out]; rfl) L2 91 hW2 (r2.below hb2.drew) (by omega) w.heap.size w hb2.drew (Nat.le_refl _) ?_; intro W3 hW3 hb3 hg3; rw [F.out] at hW3; clear hg3 hW2 hb2)
    | (refine wpList_load_row rfl 91 (.tmp 2) rfl w.heap.size rfl 91 ((xs.map (Value.int .u8)).toArray) (0, 0) _ (by assumption) Try.underlying91 rfl HI.out ?_)
    | (refine wpList_store_row rfl 91 (.tmp 2) (.tmp 17) rfl w.heap.size _ rfl rfl 91 _ (by assumption) HI.out rfl ONE.out ?_; rw [setRow_self _ _ _ _ _ (by assumption)]))
  refine bodyPost_ret (v := .agg (xs.map (.int .u8)).toArray) (results_cell_row (p := 2) rfl _ _ w.heap.size 91 _ (0, 0) _ rfl hW3 Try.underlying91 rfl HI.out) rfl ⟨rfl, hb3⟩
end Go.Proofs.Ytnmgiiaejpaeeaa
