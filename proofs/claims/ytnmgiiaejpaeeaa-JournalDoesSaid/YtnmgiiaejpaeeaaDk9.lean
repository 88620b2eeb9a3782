/- Contracts of disk.New, Lit. -/
import Derived.Test.YtnmgiiaejpaeeaaDk5
import Derived.Test.YtnmgiiaejpaeeaaStampRef1
import Derived.Laws.OwnMore
namespace Go.Proofs.Ytnmgiiaejpaeeaa
set_option linter.unusedVariables false
set_option linter.unusedSimpArgs false
open Go.RowKit
theorem madeCells_one (v : Value) (n : Nat) : (madeCells #[v] (n * 1)).toList = List.replicate n v := by
  apply List.ext_getElem?
  intro i
  by_cases h : i < n
  · simp [madeCells, List.getElem?_replicate, Nat.mod_one, h]
  · simp [madeCells, List.getElem?_replicate, Nat.mod_one, h]
theorem make_u8 (w : World) (m : Nat) (h : m ≤ 8192) : ∃ W, (Instr.makeSlice 22 (.int .i64 ((m : Int) * 32)) (.int .i64 ((m : Int) * 32))).run Try.prog w = .ok (.slice (some ⟨w.heap.size, 0, none⟩) (m * 32) (m * 32)) W ∧ Own .u8 5 W w.heap.size (.slice (some ⟨w.heap.size, 0, none⟩) (m * 32) (m * 32)) (List.replicate (m * 32) 0) ∧ Below w.heap.size w W := by
  obtain ⟨i0, hi, hz0, hz1, hz2⟩ := info_parts info_u8
  obtain ⟨W, h1, h2, h3⟩ := run_makeSlice_full (P := Try.prog) w w.heap.size 22 5 i0 (.int .u8 0) 1 Try.underlying22 hi hz0 hz1 .i64 .i64 (m * 32) (by omega) (by rw [hz2]; omega) (by simp only [maxLen]; omega) (Nat.le_refl _)
  refine ⟨W, by rw [← h1]; push_cast; rfl, ?_, ⟨h3.os, h3.tape, h3.output, h3.size, fun k hk => h3.block k hk (by simp)⟩⟩
  have e : (Value.int .u8 0).cells = #[.int .u8 0] := rfl
  rw [e, madeCells_one] at h2
  unfold Own
  simpa using h2
def newE (n : Int) : Int := if n < 1 ∨ 8192 < n then 1 else 0
def newD (n : Int) : Dk := if n < 1 ∨ 8192 < n then dk0 else ⟨List.replicate (n.toNat * 32) 0, [], -1, false⟩
set_option maxRecDepth 100000 in
set_option maxHeartbeats 2000000 in
theorem new_any (n : Int) (w : World) : Calls Try.prog 34 #[.int .i64 n] w fun e' w' => ∃ v, e' = .returned (.tuple #[v, .int .i64 (newE n)]) ∧ NewDk w' w.heap.size v (newD n) ∧ Below w.heap.size w w' := by
  have b4 := BoxOf.new w [.slice none 0 0, .slice none 0 0, .int .i64 0, .bool false] 44
  have bb := below_new w (.cells #[.slice none 0 0, .slice none 0 0, .int .i64 0, .bool false] 44)
  have B4 := Lib.hid b4
  have BB := Lib.hid bb
  clear b4 bb
  by_cases h : n < 1 ∨ 8192 < n
  · have E1 := Lib.hid (show newE n = 1 from if_pos h)
    have E2 := Lib.hid (show newD n = dk0 from if_pos h)
    rcases h with h | h
    all_goals
      go_enter Try.func34, Try.ntmps34
      go_wp2_with (refine wpList_store_box rfl 44 (.tmp 2) (.tmp 10) (by rfl) w.heap.size [.slice none 0 0, .slice none 0 0, .int .i64 0, .bool false] _ (by rfl) (by rfl) B4.out (by kernel_rfl) rfl (by simp [Value.oneCell']) ?_; intro w5 x2 g2)
      refine ret_disk_tmp rfl rfl x2 rfl ?_
      exact ⟨_, by rw [E1.out]; rfl, by rw [E2.out]; exact NewDk.zero _ _, BB.out.grown g2 (by simp) (fun k hk => by have := Option.some.inj hk; omega)⟩
  · have E1 := Lib.hid (show newE n = 0 from if_neg h)
    have E2 := Lib.hid (show newD n = ⟨List.replicate (n.toNat * 32) 0, [], -1, false⟩ from if_neg h)
    obtain ⟨m, rfl⟩ : ∃ m : Nat, n = m := ⟨n.toNat, by omega⟩
    rw [Int.toNat_natCast] at E2
    have h1 : 1 ≤ m := by omega
    have h2 : m ≤ 8192 := by omega
    clear h
    obtain ⟨W, hmk, ho, hb⟩ := make_u8 (w.alloc (.cells #[.slice none 0 0, .slice none 0 0, .int .i64 0, .bool false] 44)) m h2
    have HO := Lib.hid ho
    have HB := Lib.hid hb
    have h3 : (m : Int) * 32 ≤ 262144 := by omega
    clear ho hb
    go_enter Try.func34, Try.ntmps34
    go_wp2_with (refine wpList_store_box rfl 44 (.tmp 2) (.tmp 14) (by rfl) w.heap.size [.slice (some ⟨w.heap.size + 1, 0, none⟩) (m * 32) (m * 32), .slice none 0 0, .int .i64 (-1), .bool false] _ (by rfl) (by rfl) (B4.out.below HB.out) (by kernel_rfl) rfl (by simp [Value.oneCell']) ?_; intro w5 x2 g2)
    refine ret_disk_tmp rfl rfl x2 rfl ?_
    have b5 := bel2 BB.out HB.out
    have ho := HO.out
    rw [size_alloc] at ho
    refine ⟨_, by rw [E1.out]; rfl, ?_, b5.grown g2 b5.size (fun k hk => by have := Option.some.inj hk; omega)⟩
    rw [E2.out]
    exact ⟨_, _, fun _ => True, rfl, (Own.base (b := w.heap.size + 1) (World.ownsRow.kept ho g2 (.inr (by simp [Value.ownBlock]))) (by omega)), fun _ _ => trivial, none, 0, rfl, Nat.le_refl _, by simp [maxLen], RdWk.nil _ _ _⟩
def litE (d : Dk) (f : Int) : Int := if aliveE d = 1 ∨ f < -1 ∨ 1073741824 < f then 1 else aliveE d
def litD (d : Dk) (f : Int) : Dk := if litE d f = 0 then { d with fuse := f } else dk0
set_option maxRecDepth 100000 in
set_option maxHeartbeats 2000000 in
theorem lit_any (p : Option Addr) (c : Nat) (q : Option Addr) (e : Nat) (d : Dk) (f : Int) (w : World) (h : DkAt w p c q e d) :
    Calls Try.prog 46 #[dkV p c q e d, .int .i64 f] w fun e' w' => ∃ v, e' = .returned (.tuple #[v, .int .i64 (litE d f)]) ∧ NewDk w' w.heap.size v (litD d f) ∧ Below w.heap.size w w' := by
  have hW : ∀ O1 O2, Below w.heap.size w ((w.alloc O1).alloc O2) := fun O1 O2 => (below_new w O1).alloc (by simp) O2
  have HW := Lib.hid hW
  have H := Lib.hid h
  clear h hW
  go_enter Try.func46, Try.ntmps46
  go_wp2_with fail
  refine (alive_any p c q e d _ (H.out.below (HW.out _ _))).mono ?_
  rintro e' w2 ⟨rfl, hb2⟩
  have hs : ((w.alloc (.cells #[.slice p d.dry.length c, .slice q d.wet.length e, .int .i64 d.fuse, .bool d.dead] 44)).alloc (.cells #[.slice none 0 0, .slice none 0 0, .int .i64 0, .bool false] 44)).heap.size = w.heap.size + 2 := by simp
  have hbb : Below w.heap.size w w2 := bel2 (HW.out _ _) hb2
  have hs2 := hb2.size
  rw [hs] at hs2
  have bx := box_two' w [.slice p d.dry.length c, .slice q d.wet.length e, .int .i64 d.fuse, .bool d.dead] [.slice none 0 0, .slice none 0 0, .int .i64 0, .bool false] 44 44
  have B1 := Lib.hid (bx.1.below hb2)
  have B2 := Lib.hid (bx.2.below hb2)
  have BB := Lib.hid hbb
  clear bx hbb hb2 hs
  have ways : (aliveE d = 1 ∧ litE d f = 1) ∨ ((aliveE d == 1) = false ∧ f < -1 ∧ litE d f = 1) ∨ ((aliveE d == 1) = false ∧ -1 ≤ f ∧ 1073741824 < f ∧ litE d f = 1) ∨
      (aliveE d = 11 ∧ -1 ≤ f ∧ f ≤ 1073741824 ∧ litE d f = 11) ∨ (aliveE d = 0 ∧ -1 ≤ f ∧ f ≤ 1073741824 ∧ litE d f = 0 ∧ checkOK d) := by
    simp only [beq_eq_false_iff_ne]
    have ha : aliveE d = 1 ∨ aliveE d = 11 ∨ (aliveE d = 0 ∧ checkOK d) := by
      unfold aliveE
      by_cases hc : checkOK d
      · rw [if_pos hc]; split
        · exact .inr (.inl rfl)
        · exact .inr (.inr ⟨rfl, hc⟩)
      · exact .inl (if_neg hc)
    unfold litE
    rcases ha with ha | ha | ⟨ha, hc⟩
    · exact .inl ⟨ha, if_pos (.inl ha)⟩
    · by_cases h1 : f < -1
      · exact .inr (.inl ⟨by omega, h1, if_pos (.inr (.inl h1))⟩)
      · by_cases h2 : 1073741824 < f
        · exact .inr (.inr (.inl ⟨by omega, by omega, h2, if_pos (.inr (.inr h2))⟩))
        · exact .inr (.inr (.inr (.inl ⟨ha, by omega, by omega, by rw [if_neg (by omega), ha]⟩)))
    · by_cases h1 : f < -1
      · exact .inr (.inl ⟨by omega, h1, if_pos (.inr (.inl h1))⟩)
      · by_cases h2 : 1073741824 < f
        · exact .inr (.inr (.inl ⟨by omega, by omega, h2, if_pos (.inr (.inr h2))⟩))
        · exact .inr (.inr (.inr (.inr ⟨ha, by omega, by omega, by rw [if_neg (by omega), ha], hc⟩)))
  rcases ways with ⟨h1, h2⟩ | ⟨h1, h2, h3⟩ | ⟨h1, h2, h3, h4⟩ | ⟨h1, h2, h3, h4⟩ | ⟨h1, h2, h3, h4, h5⟩
  · have R := Lib.hid h2
    rw [h1]
    clear h1 h2
    go_wp2_with (refine wpList_store_box rfl 44 (.tmp 4) (.tmp 20) (by rfl) (w.heap.size + 1) [.slice none 0 0, .slice none 0 0, .int .i64 0, .bool false] _ (by rfl) (by rfl) B2.out (by kernel_rfl) rfl (by simp [Value.oneCell']) ?_; intro w5 x2 g2)
    refine ret_disk_tmp rfl rfl x2 rfl ?_
    have b5 := BB.out.grown g2 BB.out.size (fun k hk => by have := Option.some.inj hk; omega)
    exact ⟨_, by rw [R.out]; rfl, by unfold litD; rw [R.out, if_neg (by decide)]; exact NewDk.zero _ _, b5⟩
  · have R := Lib.hid h3
    generalize aliveE d = A at *
    clear h3
    go_wp2_with (refine wpList_store_box rfl 44 (.tmp 4) (.tmp 20) (by rfl) (w.heap.size + 1) [.slice none 0 0, .slice none 0 0, .int .i64 0, .bool false] _ (by rfl) (by rfl) B2.out (by kernel_rfl) rfl (by simp [Value.oneCell']) ?_; intro w5 x2 g2)
    refine ret_disk_tmp rfl rfl x2 rfl ?_
    have b5 := BB.out.grown g2 BB.out.size (fun k hk => by have := Option.some.inj hk; omega)
    exact ⟨_, by rw [R.out]; rfl, by unfold litD; rw [R.out, if_neg (by decide)]; exact NewDk.zero _ _, b5⟩
  · have R := Lib.hid h4
    generalize aliveE d = A at *
    clear h4
    go_wp2_with (refine wpList_store_box rfl 44 (.tmp 4) (.tmp 20) (by rfl) (w.heap.size + 1) [.slice none 0 0, .slice none 0 0, .int .i64 0, .bool false] _ (by rfl) (by rfl) B2.out (by kernel_rfl) rfl (by simp [Value.oneCell']) ?_; intro w5 x2 g2)
    refine ret_disk_tmp rfl rfl x2 rfl ?_
    have b5 := BB.out.grown g2 BB.out.size (fun k hk => by have := Option.some.inj hk; omega)
    exact ⟨_, by rw [R.out]; rfl, by unfold litD; rw [R.out, if_neg (by decide)]; exact NewDk.zero _ _, b5⟩
  · have R := Lib.hid h4
    rw [h1]
    clear h1 h4
    go_wp2_with (refine wpList_store_box rfl 44 (.tmp 4) (.tmp 24) (by rfl) (w.heap.size + 1) [.slice none 0 0, .slice none 0 0, .int .i64 0, .bool false] _ (by rfl) (by rfl) B2.out (by kernel_rfl) rfl (by simp [Value.oneCell']) ?_; intro w5 x2 g2)
    refine ret_disk_tmp rfl rfl x2 rfl ?_
    have b5 := BB.out.grown g2 BB.out.size (fun k hk => by have := Option.some.inj hk; omega)
    exact ⟨_, by rw [R.out]; rfl, by unfold litD; rw [R.out, if_neg (by decide)]; exact NewDk.zero _ _, b5⟩
  · have R := Lib.hid h4
    rw [h1]
    have OO := Lib.hid (own_any p c q e d w w2 H.out BB.out (big_of_ok h5) (by have := h5.1; omega))
    have hlo := BB.out.size
    clear h1 h4 h5
    go_wp2_with (first
      | (refine wpList_store_box rfl 44 (.tmp 4) (.tmp 30) (by rfl) (w.heap.size + 1) [.slice (some ⟨g, 0, none⟩) d.dry.length cd, .slice q2 d.wet.length c2, .int .i64 f, .bool d.dead] _ (by rfl) (by rfl) (y2.setOther ⟨w.heap.size, 2, none⟩ (.int .i64 f) (by show w.heap.size + 1 ≠ w.heap.size; omega)) (by kernel_rfl) rfl (by simp [Value.oneCell']) ?_; intro w6 y5 g6)
      | (refine wpList_load_box rfl 44 (.tmp 2) (by rfl) w.heap.size [.slice (some ⟨g, 0, none⟩) d.dry.length cd, .slice q2 d.wet.length c2, .int .i64 f, .bool d.dead] (by rfl) (y1.set 2 (.int .i64 f)) _ Try.underlying44 rfl (by kernel_rfl) ?_)
      | (refine wpList_store_box rfl 44 (.tmp 2) (.tmp 27) (by rfl) w.heap.size [.slice (some ⟨g, 0, none⟩) d.dry.length cd, .slice q2 d.wet.length c2, .int .i64 d.fuse, .bool d.dead] _ (by rfl) (by rfl) x1 (by kernel_rfl) rfl (by simp [Value.oneCell']) ?_; intro w4 y1 g1; have y2 := x2.grown g1 (by omega); have k2 := (y1.get 2 _ rfl).1; have i2 := (y1.get 2 _ rfl).2)
      | (refine OO.out.mono ?_; rintro e' w3 ⟨hi, g, cd, q2, c2, cells, rfl, od, hb3⟩; have x1 := B1.out.below hb3; have x2 := B2.out.below hb3; have bel3 := bel2 BB.out hb3; have OD := Lib.hid od; clear od)
      | (refine wpList_load_box rfl 44 (.tmp 2) (by rfl) w.heap.size [.slice p d.dry.length c, .slice q d.wet.length e, .int .i64 d.fuse, .bool d.dead] (by rfl) B1.out _ Try.underlying44 rfl (by kernel_rfl) ?_))
    refine ret_disk_tmp rfl rfl y5 rfl ?_
    have b4 := (bel3.grown g1 bel3.size (fun k hk => by have := Option.some.inj hk; omega)).setCell (p := ⟨w.heap.size, 2, none⟩) (by show w.heap.size ≤ w.heap.size; omega) (.int .i64 f)
    have n1 := (((OD.out.new.grown g1 (by omega)).grown (grownBy_set w4 ⟨w.heap.size, 2, none⟩ (.int .i64 f)) (by show ¬ (w.heap.size < _ ∨ _ ≤ w.heap.size); omega)).grown g6 (by omega)).same (d' := { d with fuse := f }) rfl rfl
    exact ⟨_, by rw [R.out]; rfl, by unfold litD; rw [if_pos R.out]; exact ⟨_, _, _, rfl, n1.imp (by omega) (fun _ h => h)⟩, b4.grown g6 b4.size (fun k hk => by have := Option.some.inj hk; omega)⟩
end Go.Proofs.Ytnmgiiaejpaeeaa
