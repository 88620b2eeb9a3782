/- Contracts of the references of package stamp: Open, Mix, SameBytes. -/
import Derived.Test.YtnmgiiaejpaeeaaStampRef1
import Derived.BigQuiet
import Derived.Deep.QuietTactic
namespace Go.Proofs.Ytnmgiiaejpaeeaa
set_option linter.unusedVariables false
set_option linter.unusedSimpArgs false
open Go.RowKit

theorem same_any (p q : Option Addr) (c d : Nat) (xs ys : List Int) (w : World) (hx : Rd .u8 w p xs) (hy : Rd .u8 w q ys) (bx : IsB xs) (by' : IsB ys) :
    Calls Try.prog 32 #[.slice p xs.length c, .slice q ys.length d] w fun e w' => e = .returned (.bool (decide (xs = ys))) ∧ w = w' := by
  have k1 := conv_rd (c := c) hx 0
  have k2 := conv_rd (c := d) hy 0
  simp only [World.drewN_zero] at k1 k2
  have s := strs_beq bx by'
  generalize decide (xs = ys) = B at *
  generalize strOfNums xs = S at *
  generalize strOfNums ys = T at *
  go_enter Try.func32, Try.ntmps32
  go_wp2
  go_ret
  exact ⟨rfl, rfl⟩

theorem rd_new (w : World) (xs : List Int) : Rd .u8 (w.alloc (.cells (xs.map (.int .u8)).toArray 5)) (some ⟨w.heap.size, 0, none⟩) xs :=
  rd_part (t := 5) (heap_alloc_new w _) xs 0 fun i hi => by rw [Nat.zero_add]; simp [List.getD, hi]
def zero8 : List Int := [0, 0, 0, 0, 0, 0, 0, 0]
theorem zero8_isB : IsB zero8 := by intro x hx; simp [zero8] at hx; omega
theorem openE_none {xs : List Int} (h : xs.length = 32) (h1 : xs.take 8 = zero8) (h2 : xs.drop 24 = zero8) : openE xs = 5 := by
  have h3 : un8 xs = 0 := by
    have : un8 xs = un8 (xs.take 8) := by simp [un8, List.getD, List.getElem?_take]
    rw [this, h1]; rfl
  unfold openE
  rw [if_neg (by omega), if_neg (by rintro (e | e); exact e (h1.trans h2.symm); omega), if_pos h3]
theorem openE_torn {xs : List Int} (h : xs.length = 32) (h1 : xs.take 8 ≠ xs.drop 24 ∨ 4611686018427387904 < un8 xs) : openE xs = 8 := by
  unfold openE; rw [if_neg (by omega), if_pos h1]
theorem openE_fine {xs : List Int} (h : xs.length = 32) (hb : IsB xs) (h1 : xs.take 8 = xs.drop 24) (h2 : un8 xs ≤ 4611686018427387904) (h3 : xs.take 8 ≠ zero8) : openE xs = 0 := by
  unfold openE
  rw [if_neg (by omega), if_neg (by rintro (e | e); exact e h1; omega), if_neg]
  intro h0
  apply h3
  rw [← le8_un8 hb (by omega), h0]; rfl
set_option maxRecDepth 100000 in
set_option maxHeartbeats 4000000 in
theorem ref_open_any (p : Option Addr) (c : Nat) (xs : List Int) (w : World) (hr : Rd .u8 w p xs) (hb : IsB xs) (hc : xs.length ≤ c) (hm : c ≤ 9223372036854775807) :
    Calls Try.prog 28 #[.slice p xs.length c] w (OpenPost xs w) := by
  by_cases h32 : xs.length = 32
  · obtain ⟨b, o, rfl, hcell⟩ := hr (by omega)
    have hr' : Rd .u8 w (some ⟨b, o, none⟩) xs := hr
    have hbel : ∀ O, Below w.heap.size w (w.alloc O) := fun O => below_new w O
    have k0 := conv_rd (c := 8) (rd_new w zero8)
    have k1 := conv_rd (c := c) ((hr'.take 8).below (hbel (.cells (zero8.map (.int .u8)).toArray 5)))
    have k2 := conv_rd (c := c - 24) ((Rd.part hcell 24).below (hbel (.cells (zero8.map (.int .u8)).toArray 5)))
    have cells : ∀ i, i < 8 → ∀ O, (w.alloc O).cell? ⟨b, o + i, none⟩ = some (.int .u8 (xs.getD i 0)) := fun i hi O => cell_below (hbel O) (hcell i (by omega))
    have r8 : Rd .u8 w (some ⟨b, o + 8, none⟩) ((xs.drop 8).take 16) := (Rd.part hcell 8).take 16
    have l8 : ((xs.drop 8).take 16).length = 16 := by simp [h32]
    rw [show (xs.take 8).length = 8 by simp [h32]] at k1
    rw [show (xs.drop 24).length = 8 by simp [h32]] at k2
    rw [show zero8.length = 8 from rfl] at k0
    have k00 := k0 0
    have k10 := k1 0
    have k20 := k2 0
    simp only [World.drewN_zero] at k00 k10 k20
    have hmk : ∀ w, (Instr.makeSlice 22 (.int .i64 8) (.int .i64 8)).run Try.prog w = .ok (.slice (some ⟨w.heap.size, 0, none⟩) 8 8) (w.alloc (.cells (zero8.map (Value.int .u8)).toArray 5)) := fun _ => by kernel_rfl
    have b8 : IsB (xs.take 8) := fun x hx => hb x (List.mem_of_mem_take hx)
    have b24 : IsB (xs.drop 24) := fun x hx => hb x (List.mem_of_mem_drop hx)
    have q1 := strs_beq b8 zero8_isB
    have q2 := strs_beq b24 zero8_isB
    have q3 := strs_beq b8 b24
    have c24 : ¬ c = 24 := by omega
    have c8 : (8 : Int) ≤ (c : Int) := by omega
    have c24' : (24 : Int) ≤ (c : Int) := by omega
    rw [h32]
    clear hr hr' hcell
    have hmk' := hmk
    have hx : (zero8.map (Value.int .u8)).toArray = #[.int .u8 0, .int .u8 0, .int .u8 0, .int .u8 0, .int .u8 0, .int .u8 0, .int .u8 0, .int .u8 0] := rfl
    generalize strOfNums zero8 = S0 at *
    generalize strOfNums (xs.take 8) = S1 at *
    generalize strOfNums (xs.drop 24) = S2 at *
    rw [hx] at hmk k0 k1 k2 k00 k10 k20
    clear hmk' hx
    have x0 := cells 0 (by omega); have x1 := cells 1 (by omega); have x2 := cells 2 (by omega); have x3 := cells 3 (by omega); have x4 := cells 4 (by omega); have x5 := cells 5 (by omega); have x6 := cells 6 (by omega); have x7 := cells 7 (by omega)
    have g : ∀ i, i < 8 → 0 ≤ xs.getD i 0 ∧ xs.getD i 0 < 256 := fun i hi => by
      have hl : i < xs.length := by omega
      simp only [List.getD, List.getElem?_eq_getElem hl, Option.getD_some]
      exact hb _ (List.getElem_mem hl)
    have hN : un8 xs = xs.getD 0 0 + xs.getD 1 0 * 256 + xs.getD 2 0 * 65536 + xs.getD 3 0 * 16777216 + xs.getD 4 0 * 4294967296 + xs.getD 5 0 * 1099511627776 + xs.getD 6 0 * 281474976710656 + xs.getD 7 0 * 72057594037927936 := rfl
    have r0 := g 0 (by omega); have r1 := g 1 (by omega); have r2 := g 2 (by omega); have r3 := g 3 (by omega); have r4 := g 4 (by omega); have r5 := g 5 (by omega); have r6 := g 6 (by omega); have r7 := g 7 (by omega)
    rw [Nat.add_zero] at x0
    generalize xs.getD 0 0 = a0 at *
    generalize xs.getD 1 0 = a1 at *
    generalize xs.getD 2 0 = a2 at *
    generalize xs.getD 3 0 = a3 at *
    generalize xs.getD 4 0 = a4 at *
    generalize xs.getD 5 0 = a5 at *
    generalize xs.getD 6 0 = a6 at *
    generalize xs.getD 7 0 = a7 at *
    have ways : (openE xs = 5 ∧ xs.take 8 = zero8 ∧ xs.drop 24 = zero8) ∨
        (openE xs = 8 ∧ xs.take 8 = zero8 ∧ xs.drop 24 ≠ zero8 ∧ xs.take 8 ≠ xs.drop 24) ∨
        (openE xs = 8 ∧ xs.take 8 ≠ zero8 ∧ xs.take 8 ≠ xs.drop 24) ∨
        (openE xs = 8 ∧ xs.take 8 ≠ zero8 ∧ xs.take 8 = xs.drop 24 ∧ 64 < a7) ∨
        (openE xs = 8 ∧ xs.take 8 ≠ zero8 ∧ xs.take 8 = xs.drop 24 ∧ a7 ≤ 64 ∧ 4611686018427387904 < un8 xs) ∨
        (openE xs = 0 ∧ xs.take 8 ≠ zero8 ∧ xs.take 8 = xs.drop 24 ∧ a7 ≤ 64 ∧ un8 xs ≤ 4611686018427387904) := by
      by_cases t1 : xs.take 8 = zero8
      · by_cases t2 : xs.drop 24 = zero8
        · exact .inl ⟨openE_none h32 t1 t2, t1, t2⟩
        · have t3 : xs.take 8 ≠ xs.drop 24 := fun e => t2 (e ▸ t1)
          exact .inr (.inl ⟨openE_torn h32 (.inl t3), t1, t2, t3⟩)
      · by_cases t3 : xs.take 8 = xs.drop 24
        · by_cases t4 : 64 < a7
          · exact .inr (.inr (.inr (.inl ⟨openE_torn h32 (.inr (by omega)), t1, t3, t4⟩)))
          · by_cases t5 : 4611686018427387904 < un8 xs
            · exact .inr (.inr (.inr (.inr (.inl ⟨openE_torn h32 (.inr t5), t1, t3, by omega, t5⟩))))
            · exact .inr (.inr (.inr (.inr (.inr ⟨openE_fine h32 hb t3 (by omega) t1, t1, t3, by omega, by omega⟩))))
        · exact .inr (.inr (.inl ⟨openE_torn h32 (.inl t3), t1, t3⟩))
    have HN := Lib.hid hN
    have L8 := Lib.hid l8
    have HB := hbel (.cells #[.int .u8 0, .int .u8 0, .int .u8 0, .int .u8 0, .int .u8 0, .int .u8 0, .int .u8 0, .int .u8 0] 5)
    rcases ways with ⟨hE, t1, t2⟩ | ⟨hE, t1, t2, t3⟩ | ⟨hE, t1, t3⟩ | ⟨hE, t1, t3, t4⟩ | ⟨hE, t1, t3, t4, t5⟩ | ⟨hE, t1, t3, t4, t5⟩
    · simp only [decide_eq_true t1, decide_eq_true t2] at q1 q2
      have HE := Lib.hid hE
      clear hE t1 t2 q3 h32 l8 k1 k2 k0 b8 b24 hN cells g hbel
      go_enter Try.func28, Try.ntmps28
      go_wp2
      go_ret3
      exact openPost_bad 5 HE.out (by decide) HB
    · simp only [decide_eq_true t1] at q1
      simp only [decide_eq_false t2] at q2
      simp only [decide_eq_false t3] at q3
      have HE := Lib.hid hE
      clear hE t1 t2 t3 h32 l8 k0 b8 b24 hN cells g hbel
      go_enter Try.func28, Try.ntmps28
      go_wp2
      go_quiet (fail)
      go_wp2
      go_ret3
      exact openPost_bad 8 HE.out (by decide) (Go.below_drewN HB _)
    · simp only [decide_eq_false t1] at q1
      simp only [decide_eq_false t3] at q3
      have HE := Lib.hid hE
      clear hE t1 t3 h32 l8 k0 b8 b24 hN cells g hbel q2
      go_enter Try.func28, Try.ntmps28
      go_wp2
      go_quiet (fail)
      go_wp2
      go_ret3
      exact openPost_bad 8 HE.out (by decide) (Go.below_drewN HB _)
    · simp only [decide_eq_false t1] at q1
      simp only [decide_eq_true t3] at q3
      have HE := Lib.hid hE
      clear hE t1 t3 h32 l8 k0 b8 b24 hN cells g hbel q2
      go_enter Try.func28, Try.ntmps28
      go_wp2
      go_quiet (fail)
      go_wp2
      go_ret3
      exact openPost_bad 8 HE.out (by decide) (Go.below_drewN HB _)
    · simp only [decide_eq_false t1] at q1
      simp only [decide_eq_true t3] at q3
      have HE := Lib.hid hE
      rw [hN] at t5
      clear hE t1 t3 h32 l8 k0 b8 b24 hN cells g hbel q2
      go_enter Try.func28, Try.ntmps28
      go_wp2
      go_quiet (fail)
      go_wp2
      refine wp_loop_rounds 9 ?_
      iterate 8 (rw [rounds_succ]; go_wp2)
      rw [rounds_succ]
      go_wp2
      go_ret3
      exact openPost_bad 8 HE.out (by decide) (Go.below_drewN HB _)
    · simp only [decide_eq_false t1] at q1
      simp only [decide_eq_true t3] at q3
      have HE := Lib.hid hE
      rw [hN] at t5
      clear hE t1 t3 h32 l8 k0 b8 b24 hN cells g hbel q2
      go_enter Try.func28, Try.ntmps28
      go_wp2
      go_quiet (fail)
      go_wp2
      refine wp_loop_rounds 9 ?_
      iterate 8 (rw [rounds_succ]; go_wp2)
      rw [rounds_succ]
      have hbn := Go.below_drewN HB nq
      have r8n := r8.below hbn
      have hBn := hbn.size
      go_wp2_with (refine wpList_append_rd rfl (.const (.slice none 0 0)) (.tmp 54) 22 rfl 5 .u8 1 Try.underlying22 info_u8 (by decide) w.heap.size _ rfl [] (Own.nil _ _ _ _) (some ⟨b, o + 8, none⟩) (c - 8) ((xs.drop 8).take 16) (by rw [L8.out]; rfl) r8n (by rw [L8.out]; simp) hBn ?_; intro v1 w1 ho1 hg1; have hb1 := below_app hbn (Own.nil .u8 5 _ _) hg1 hBn; clear hg1)
      go_ret3
      have h0 := HE.out
      rw [List.nil_append] at ho1
      have hfin : OpenPost xs w (.returned (.tuple #[.int .i64 (un8 xs), v1, .int .i64 0])) w1 :=
        ⟨v1, by rw [h0, openN, if_pos h0], by rw [openP, if_pos h0]; exact ho1.fr, hb1⟩
      rw [HN.out] at hfin
      have hv : a0 + a1 * 256 + a2 * 65536 + a3 * 16777216 + a4 * 4294967296 + a5 * 1099511627776 + a6 * 281474976710656 + a7 * 72057594037927936 = 256 * (256 * (256 * (256 * (256 * (256 * (256 * a7 + a6) + a5) + a4) + a3) + a2) + a1) + a0 := by omega
      rw [hv] at hfin
      exact hfin
  · have hE : openE xs = 1 := if_pos h32
    have h32' : ((xs.length : Int) != 32) = true := by rw [bne_iff_ne]; omega
    clear h32
    have HE := Lib.hid hE
    clear hE
    go_enter Try.func28, Try.ntmps28
    go_wp2
    go_ret3
    exact openPost_bad 1 HE.out (by decide) (Below.refl _ _)
end Go.Proofs.Ytnmgiiaejpaeeaa
