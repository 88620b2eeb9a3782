import Derived.Test.YtnmgiiaejpaeeaaProg
import Derived.Test.YtnmgiiaejpaeeaaStamp3
import Derived.ChangeKeysEq
/- Contract of package stamp's Open. -/
namespace Go.Proofs.Ytnmgiiaejpaeeaa
set_option linter.unusedVariables false
set_option linter.unusedSimpArgs false
open Go.RowKit
theorem part_u8 (xs : List Int) (i : Nat) (w : World) (h : i < xs.length) : (part 5 (xs.map (.int .u8)).toArray i).run Try.prog w = .ok (.int .u8 (xs.getD i 0)) w := by
  have a5 := Try.isAgg5
  have e : ((xs.map (Value.int .u8)).toArray)[i]? = some (.int .u8 (xs.getD i 0)) := by simp [h, List.getD]
  simp [part, e, a5]
theorem eqItems_u8 (d : Nat) (xs ys : List Int) (w : World) : ∀ is : List Nat, (∀ i ∈ is, i < xs.length ∧ i < ys.length) →
    (Op.eqItems (d + 1) 5 1 (xs.map (.int .u8)).toArray (ys.map (.int .u8)).toArray is).run Try.prog w = .ok (is.all fun i => xs.getD i 0 == ys.getD i 0) w
  | [], _ => by simp [Op.eqItems]
  | i :: is, h => by
    have ih := eqItems_u8 d xs ys w is (fun j hj => h j (by simp [hj]))
    have hi := h i (by simp)
    simp only [Op.eqItems, Nat.mul_one, Sem.run_bind, part_u8 xs i w hi.1, part_u8 ys i w hi.2, Result.andThen_ok, run_equalIn_int w d 5 .u8 .u8 _ _ Try.underlying5]
    cases hq : (xs.getD i 0 == ys.getD i 0)
    · simp [-List.getD_eq_getElem?_getD, hq]
    · simp only [Bool.not_true, Bool.false_eq_true, if_false, List.all_cons, hq, Bool.true_and]
      exact ih
theorem arr8_eq (xs ys : List Int) (hx : xs.length = 8) (hy : ys.length = 8) (w : World) :
    (Op.equalIn 10000 88 (.agg (xs.map (.int .u8)).toArray) (.agg (ys.map (.int .u8)).toArray)).run Try.prog w = .ok (decide (xs = ys)) w := by
  have hc : Try.prog.cellsOf 5 = 1 := by kernel_rfl
  obtain ⟨i0, hi⟩ : ∃ i0, Try.prog.info? 5 = some i0 := by
    have : (Try.prog.info? 5).isSome = true := by kernel_rfl
    exact Option.isSome_iff_exists.1 this
  rw [show (10000 : Nat) = 9998 + 1 + 1 from rfl, run_equalIn_array w 9999 _ _ Try.underlying88 hi, hc, eqItems_u8 9998 xs ys w _ (fun i hi => by have := List.mem_range.1 hi; omega)]
  refine congrArg (fun b => Result.ok b w) ?_
  rw [Bool.eq_iff_iff]
  simp only [List.all_eq_true, List.mem_range, beq_iff_eq, decide_eq_true_eq]
  constructor
  · intro h
    apply List.ext_getElem (by omega)
    intro i h1 h2
    have := h i (by omega)
    simpa [List.getD, h1, h2] using this
  · rintro rfl i _; rfl
theorem u64_or_low (i : Nat) (x y : Int) (hx0 : 0 ≤ x) (hx : x < 2 ^ i) (hy0 : 0 ≤ y) (hy : y % 2 ^ i = 0) (hy1 : y < 2 ^ 64) (hx1 : x < 2 ^ 64) : bits .or .u64 x y = x + y := by
  have hc : bits .or .u64 x y = bits .or .u64 y x := by simp only [bits, BitVec.or_comm]
  rw [hc, bits_join .u64 64 (by decide) (fun n h0 h1 => by rw [IntKind.wrap_u64]; omega) i y x hy0 hy hy1 hx0 hx hx1, Int.add_comm]

def un8 (xs : List Int) : Int := xs.getD 0 0 + xs.getD 1 0 * 256 + xs.getD 2 0 * 65536 + xs.getD 3 0 * 16777216 + xs.getD 4 0 * 4294967296 + xs.getD 5 0 * 1099511627776 + xs.getD 6 0 * 281474976710656 + xs.getD 7 0 * 72057594037927936
theorem open_fr (w w1 : World) (hb1 : Below w.heap.size w w1) (ys : List Int) (h : ys.length = 32) (nq : Nat) :
    Fr .u8 w.heap.size ((w1.alloc (.cells (ys.map (.int .u8)).toArray 91)).drewN nq) (.slice (some ⟨w1.heap.size, 8, none⟩) 16 16) ((ys.drop 8).take 16) := by
  have hl : ((ys.drop 8).take 16).length = 16 := by simp [h]
  have := fr_block (k := .u8) (W := (w1.alloc (.cells (ys.map (.int .u8)).toArray 91)).drewN nq) (g := w1.heap.size) (B := w.heap.size) (ys := ys) (t := 91) (by rw [World.heap_drewN]; exact heap_alloc_new w1 _) hb1.size ((ys.drop 8).take 16) 8 16 (by omega) (by simp [maxLen]) (get_part 8 16 (by omega))
  rwa [hl] at this
/-- What Open tells: 1: no sector; 8: torn; 5: none; 0: all is well. -/
def openE (xs : List Int) : Int := if xs.length ≠ 32 then 1 else if xs.take 8 ≠ xs.drop 24 ∨ 4611686018427387904 < un8 xs then 8 else if un8 xs = 0 then 5 else 0
def openN (xs : List Int) : Int := if openE xs = 0 then un8 xs else 0
def openP (xs : List Int) : List Int := if openE xs = 0 then (xs.drop 8).take 16 else []
def OpenPost (xs : List Int) (w : World) (e : Ending) (w' : World) : Prop :=
  ∃ v, e = .returned (.tuple #[.int .i64 (openN xs), v, .int .i64 (openE xs)]) ∧ Fr .u8 w.heap.size w' v (openP xs) ∧ Below w.heap.size w w'
theorem openPost_bad {xs : List Int} {w w' : World} (k : Int) (h : openE xs = k) (h0 : k ≠ 0) (hb : Below w.heap.size w w') : OpenPost xs w (.returned (.tuple #[.int .i64 0, .slice none 0 0, .int .i64 k])) w' := by
  have e1 : openN xs = 0 := if_neg (by rw [h]; exact h0)
  have e2 : openP xs = [] := if_neg (by rw [h]; exact h0)
  exact ⟨_, by rw [e1, h], by rw [e2]; exact Fr.nil _ _ _, hb⟩

set_option maxRecDepth 100000 in
set_option maxHeartbeats 4000000 in
theorem open_any (p : Option Addr) (c : Nat) (xs : List Int) (w : World) (hr : Rd .u8 w p xs) (hb : IsB xs) (hc : xs.length ≤ c) (hm : c ≤ 9223372036854775807) :
    Calls Try.prog 23 #[.slice p xs.length c] w (OpenPost xs w) := by
  by_cases h32 : xs.length = 32
  · obtain ⟨b, o, rfl, hcell⟩ := hr (by omega)
    have hsp := fun W (hW : Below w.heap.size w W) => split_any b o c xs W h32 (by omega) hm (fun i hi => cell_below hW (hcell i hi))
    clear hr hcell
    obtain ⟨a0, a1, a2, a3, a4, a5, a6, a7, b0, b1, b2, b3, b4, b5, b6, b7, b8, b9, b10, b11, b12, b13, b14, b15, c0, c1, c2, c3, c4, c5, c6, c7, rfl⟩ := list32 h32
    have r0 := hb a0 (by simp); have r1 := hb a1 (by simp); have r2 := hb a2 (by simp); have r3 := hb a3 (by simp); have r4 := hb a4 (by simp); have r5 := hb a5 (by simp); have r6 := hb a6 (by simp); have r7 := hb a7 (by simp)
    clear hb
    have hE : openE [a0, a1, a2, a3, a4, a5, a6, a7, b0, b1, b2, b3, b4, b5, b6, b7, b8, b9, b10, b11, b12, b13, b14, b15, c0, c1, c2, c3, c4, c5, c6, c7] = if [a0, a1, a2, a3, a4, a5, a6, a7] ≠ [c0, c1, c2, c3, c4, c5, c6, c7] ∨ 4611686018427387904 < a0 + a1 * 256 + a2 * 65536 + a3 * 16777216 + a4 * 4294967296 + a5 * 1099511627776 + a6 * 281474976710656 + a7 * 72057594037927936 then 8 else if a0 + a1 * 256 + a2 * 65536 + a3 * 16777216 + a4 * 4294967296 + a5 * 1099511627776 + a6 * 281474976710656 + a7 * 72057594037927936 = 0 then 5 else 0 := rfl
    have hN : un8 [a0, a1, a2, a3, a4, a5, a6, a7, b0, b1, b2, b3, b4, b5, b6, b7, b8, b9, b10, b11, b12, b13, b14, b15, c0, c1, c2, c3, c4, c5, c6, c7] = a0 + a1 * 256 + a2 * 65536 + a3 * 16777216 + a4 * 4294967296 + a5 * 1099511627776 + a6 * 281474976710656 + a7 * 72057594037927936 := rfl
    have hq := fun W => arr8_eq [a0, a1, a2, a3, a4, a5, a6, a7] [c0, c1, c2, c3, c4, c5, c6, c7] rfl rfl W
    simp only [List.map_cons, List.map_nil, List.length_cons, List.length_nil, Nat.zero_add, Nat.reduceAdd] at hq hsp
    have i0 : ∀ w, (Instr.index 88 (.agg #[.int .u8 a0, .int .u8 a1, .int .u8 a2, .int .u8 a3, .int .u8 a4, .int .u8 a5, .int .u8 a6, .int .u8 a7]) (.int .i64 0)).run Try.prog w = .ok (.int .u8 a0) w := fun _ => by kernel_rfl
    have i1 : ∀ w, (Instr.index 88 (.agg #[.int .u8 a0, .int .u8 a1, .int .u8 a2, .int .u8 a3, .int .u8 a4, .int .u8 a5, .int .u8 a6, .int .u8 a7]) (.int .i64 1)).run Try.prog w = .ok (.int .u8 a1) w := fun _ => by kernel_rfl
    have i2 : ∀ w, (Instr.index 88 (.agg #[.int .u8 a0, .int .u8 a1, .int .u8 a2, .int .u8 a3, .int .u8 a4, .int .u8 a5, .int .u8 a6, .int .u8 a7]) (.int .i64 2)).run Try.prog w = .ok (.int .u8 a2) w := fun _ => by kernel_rfl
    have i3 : ∀ w, (Instr.index 88 (.agg #[.int .u8 a0, .int .u8 a1, .int .u8 a2, .int .u8 a3, .int .u8 a4, .int .u8 a5, .int .u8 a6, .int .u8 a7]) (.int .i64 3)).run Try.prog w = .ok (.int .u8 a3) w := fun _ => by kernel_rfl
    have i4 : ∀ w, (Instr.index 88 (.agg #[.int .u8 a0, .int .u8 a1, .int .u8 a2, .int .u8 a3, .int .u8 a4, .int .u8 a5, .int .u8 a6, .int .u8 a7]) (.int .i64 4)).run Try.prog w = .ok (.int .u8 a4) w := fun _ => by kernel_rfl
    have i5 : ∀ w, (Instr.index 88 (.agg #[.int .u8 a0, .int .u8 a1, .int .u8 a2, .int .u8 a3, .int .u8 a4, .int .u8 a5, .int .u8 a6, .int .u8 a7]) (.int .i64 5)).run Try.prog w = .ok (.int .u8 a5) w := fun _ => by kernel_rfl
    have i6 : ∀ w, (Instr.index 88 (.agg #[.int .u8 a0, .int .u8 a1, .int .u8 a2, .int .u8 a3, .int .u8 a4, .int .u8 a5, .int .u8 a6, .int .u8 a7]) (.int .i64 6)).run Try.prog w = .ok (.int .u8 a6) w := fun _ => by kernel_rfl
    have i7 : ∀ w, (Instr.index 88 (.agg #[.int .u8 a0, .int .u8 a1, .int .u8 a2, .int .u8 a3, .int .u8 a4, .int .u8 a5, .int .u8 a6, .int .u8 a7]) (.int .i64 7)).run Try.prog w = .ok (.int .u8 a7) w := fun _ => by kernel_rfl
    have o0 : bits .or .u64 0 a0 = a0 := by rw [u64_or_low 0 0 a0 (by omega) (by omega) (by omega) (by omega) (by omega) (by omega)]; omega
    have o1 : bits .or .u64 a0 (a1 * 256) = a0 + a1 * 256 := u64_or_low 8 _ _ (by omega) (by omega) (by omega) (by omega) (by omega) (by omega)
    have o2 : bits .or .u64 (a0 + a1 * 256) (a2 * 65536) = a0 + a1 * 256 + a2 * 65536 := u64_or_low 16 _ _ (by omega) (by omega) (by omega) (by omega) (by omega) (by omega)
    have o3 : bits .or .u64 (a0 + a1 * 256 + a2 * 65536) (a3 * 16777216) = a0 + a1 * 256 + a2 * 65536 + a3 * 16777216 := u64_or_low 24 _ _ (by omega) (by omega) (by omega) (by omega) (by omega) (by omega)
    have o4 : bits .or .u64 (a0 + a1 * 256 + a2 * 65536 + a3 * 16777216) (a4 * 4294967296) = a0 + a1 * 256 + a2 * 65536 + a3 * 16777216 + a4 * 4294967296 := u64_or_low 32 _ _ (by omega) (by omega) (by omega) (by omega) (by omega) (by omega)
    have o5 : bits .or .u64 (a0 + a1 * 256 + a2 * 65536 + a3 * 16777216 + a4 * 4294967296) (a5 * 1099511627776) = a0 + a1 * 256 + a2 * 65536 + a3 * 16777216 + a4 * 4294967296 + a5 * 1099511627776 := u64_or_low 40 _ _ (by omega) (by omega) (by omega) (by omega) (by omega) (by omega)
    have o6 : bits .or .u64 (a0 + a1 * 256 + a2 * 65536 + a3 * 16777216 + a4 * 4294967296 + a5 * 1099511627776) (a6 * 281474976710656) = a0 + a1 * 256 + a2 * 65536 + a3 * 16777216 + a4 * 4294967296 + a5 * 1099511627776 + a6 * 281474976710656 := u64_or_low 48 _ _ (by omega) (by omega) (by omega) (by omega) (by omega) (by omega)
    have o7 : bits .or .u64 (a0 + a1 * 256 + a2 * 65536 + a3 * 16777216 + a4 * 4294967296 + a5 * 1099511627776 + a6 * 281474976710656) (a7 * 72057594037927936) = a0 + a1 * 256 + a2 * 65536 + a3 * 16777216 + a4 * 4294967296 + a5 * 1099511627776 + a6 * 281474976710656 + a7 * 72057594037927936 := u64_or_low 56 _ _ (by omega) (by omega) (by omega) (by omega) (by omega) (by omega)
    have HS := Lib.hid hsp; have HE := Lib.hid hE; have HN := Lib.hid hN
    clear hsp hE hN h32
    by_cases hd : [a0, a1, a2, a3, a4, a5, a6, a7] = [c0, c1, c2, c3, c4, c5, c6, c7]
    · have hq' : ∀ W, (Op.equalIn 10000 88 (.agg #[.int .u8 a0, .int .u8 a1, .int .u8 a2, .int .u8 a3, .int .u8 a4, .int .u8 a5, .int .u8 a6, .int .u8 a7]) (.agg #[.int .u8 c0, .int .u8 c1, .int .u8 c2, .int .u8 c3, .int .u8 c4, .int .u8 c5, .int .u8 c6, .int .u8 c7])).run Try.prog W = .ok true W := fun W => by rw [hq W, decide_eq_true hd]
      have HD := Lib.hid hd
      clear hd hq
      by_cases hl : 4611686018427387904 < a0 + a1 * 256 + a2 * 65536 + a3 * 16777216 + a4 * 4294967296 + a5 * 1099511627776 + a6 * 281474976710656 + a7 * 72057594037927936
      · go_enter Try.func23, Try.ntmps23
        go_wp2_with fail
        refine (HS.out _ (Below.refl _ _)).mono ?_
        rintro e w1 ⟨rfl, hb1⟩
        go_wp2_with (refine wpList_store_row rfl 91 (.tmp 5) (.tmp 13) rfl w1.heap.size _ rfl rfl 91 _ (heap_alloc_new _ _) (by kernel_rfl) rfl (by simp [Value.oneCell']) ?_; rw [setRow_alloc])
        refine wp_loop_rounds 9 ?_
        iterate 8 (rw [rounds_succ]; go_wp2)
        rw [rounds_succ]
        go_wp2
        go_ret3
        exact openPost_bad 8 (by rw [HE.out, if_pos (.inr hl)]) (by decide) (hb1.trans (below_new _ _ |>.mono hb1.size))
      by_cases hz : a0 + a1 * 256 + a2 * 65536 + a3 * 16777216 + a4 * 4294967296 + a5 * 1099511627776 + a6 * 281474976710656 + a7 * 72057594037927936 = 0
      · have hz' : ((a0 + a1 * 256 + a2 * 65536 + a3 * 16777216 + a4 * 4294967296 + a5 * 1099511627776 + a6 * 281474976710656 + a7 * 72057594037927936) == 0) = true := by rw [beq_iff_eq]; exact hz
        have hl' : ¬ (4611686018427387904 : Int) < 0 := by omega
        have HZ := Lib.hid hz
        clear hz
        go_enter Try.func23, Try.ntmps23
        go_wp2_with fail
        refine (HS.out _ (Below.refl _ _)).mono ?_
        rintro e w1 ⟨rfl, hb1⟩
        go_wp2_with (refine wpList_store_row rfl 91 (.tmp 5) (.tmp 13) rfl w1.heap.size _ rfl rfl 91 _ (heap_alloc_new _ _) (by kernel_rfl) rfl (by simp [Value.oneCell']) ?_; rw [setRow_alloc])
        refine wp_loop_rounds 9 ?_
        iterate 8 (rw [rounds_succ]; go_wp2)
        rw [rounds_succ]
        go_wp2
        go_ret3
        exact openPost_bad 5 (by rw [HE.out, if_neg (by rintro (h | h); exact h HD.out; omega), if_pos HZ.out]) (by decide) (hb1.trans (below_new _ _ |>.mono hb1.size))
      · have hz' : ((a0 + a1 * 256 + a2 * 65536 + a3 * 16777216 + a4 * 4294967296 + a5 * 1099511627776 + a6 * 281474976710656 + a7 * 72057594037927936) == 0) = false := by rw [beq_eq_false_iff_ne]; exact hz
        have hw : IntKind.i64.wrap (a0 + a1 * 256 + a2 * 65536 + a3 * 16777216 + a4 * 4294967296 + a5 * 1099511627776 + a6 * 281474976710656 + a7 * 72057594037927936) = a0 + a1 * 256 + a2 * 65536 + a3 * 16777216 + a4 * 4294967296 + a5 * 1099511627776 + a6 * 281474976710656 + a7 * 72057594037927936 := by rw [IntKind.wrap_i64]; omega
        have HW := Lib.hid hw
        clear hw
        have HZ := Lib.hid hz
        clear hz
        go_enter Try.func23, Try.ntmps23
        go_wp2_with fail
        refine (HS.out _ (Below.refl _ _)).mono ?_
        rintro e w1 ⟨rfl, hb1⟩
        go_wp2_with (refine wpList_store_row rfl 91 (.tmp 5) (.tmp 13) rfl w1.heap.size _ rfl rfl 91 _ (heap_alloc_new _ _) (by kernel_rfl) rfl (by simp [Value.oneCell']) ?_; rw [setRow_alloc])
        refine wp_loop_rounds 9 ?_
        iterate 8 (rw [rounds_succ]; go_wp2)
        rw [rounds_succ]
        go_wp2
        go_quiet (fail)
        go_wp2
        go_ret3
        have hfr := open_fr w w1 hb1 [a0, a1, a2, a3, a4, a5, a6, a7, b0, b1, b2, b3, b4, b5, b6, b7, b8, b9, b10, b11, b12, b13, b14, b15, c0, c1, c2, c3, c4, c5, c6, c7] rfl nq
        have h0 := HE.out
        rw [if_neg (by rintro (h | h); exact h HD.out; omega), if_neg HZ.out] at h0
        exact ⟨.slice (some ⟨w1.heap.size, 8, none⟩) 16 16, by rw [h0, openN, if_pos h0, HN.out]; exact congrArg (fun z => Ending.returned (.tuple #[.int .i64 z, .slice (some ⟨w1.heap.size, 8, none⟩) 16 16, .int .i64 0])) HW.out, by rw [openP, if_pos h0]; exact hfr, Go.below_drewN (hb1.trans (below_new _ _ |>.mono hb1.size)) _⟩
    · simp only [hd, decide_false] at hq
      have HD := Lib.hid hd
      clear hd
      go_enter Try.func23, Try.ntmps23
      go_wp2_with fail
      refine (HS.out _ (Below.refl _ _)).mono ?_
      rintro e w1 ⟨rfl, hb1⟩
      go_wp2_with (refine wpList_store_row rfl 91 (.tmp 5) (.tmp 13) rfl w1.heap.size _ rfl rfl 91 _ (heap_alloc_new _ _) (by kernel_rfl) rfl (by simp [Value.oneCell']) ?_; rw [setRow_alloc])
      refine wp_loop_rounds 9 ?_
      iterate 8 (rw [rounds_succ]; go_wp2)
      rw [rounds_succ]
      go_wp2
      go_ret3
      exact openPost_bad 8 (by rw [HE.out, if_pos (.inl HD.out)]) (by decide) (hb1.trans (below_new _ _ |>.mono hb1.size))
  · have hE : openE xs = 1 := if_pos h32
    have h32' : ((xs.length : Int) == 32) = false := by rw [beq_eq_false_iff_ne]; omega
    clear h32
    have HE := Lib.hid hE
    clear hE
    go_enter Try.func23, Try.ntmps23
    go_wp2
    go_ret3
    exact openPost_bad 1 HE.out (by decide) (Below.refl _ _)
end Go.Proofs.Ytnmgiiaejpaeeaa
