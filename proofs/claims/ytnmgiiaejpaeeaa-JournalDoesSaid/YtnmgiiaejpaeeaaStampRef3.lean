/- Contracts of the references of package stamp: Mix, Seal in all cases; cells of the call's own that may be written. -/
import Derived.Test.YtnmgiiaejpaeeaaStampRef2
import Derived.Test.YtnmgiiaejpaeeaaStamp5
import Derived.HandedShaped
namespace Go.Proofs.Ytnmgiiaejpaeeaa
set_option linter.unusedVariables false
set_option linter.unusedSimpArgs false
open Go.RowKit

theorem ref_seal_any (n : Int) (p : Option Addr) (c : Nat) (xs : List Int) (w : World) (hr : Rd .u8 w p xs) (hc : xs.length ≤ c) (hm : c ≤ 9223372036854775807) :
    Calls Try.prog 27 #[.int .i64 n, .slice p xs.length c] w fun e w' =>
      ∃ v, e = .returned (.tuple #[v, .int .i64 (sealE n xs.length)]) ∧ Fr .u8 w.heap.size w' v (sealR n xs) ∧ Below w.heap.size w w' := by
  have hm' : xs.length ≤ 9223372036854775807 := by omega
  by_cases h1 : n < 1
  · have e1 : sealE n xs.length = 1 := if_pos (.inl h1)
    have e2 : sealR n xs = [] := by unfold sealR; rw [if_neg (by omega)]
    rw [e1, e2]; clear e1 e2
    go_enter Try.func27, Try.ntmps27
    go_wp2
    go_ret2
    exact ⟨_, rfl, Fr.nil _ _ _, Below.refl _ _⟩
  by_cases h2 : 4611686018427387904 < n
  · have e1 : sealE n xs.length = 1 := if_pos (.inr h2)
    have e2 : sealR n xs = [] := by unfold sealR; rw [if_neg (by omega)]
    rw [e1, e2]; clear e1 e2
    go_enter Try.func27, Try.ntmps27
    go_wp2
    go_ret2
    exact ⟨_, rfl, Fr.nil _ _ _, Below.refl _ _⟩
  by_cases h3 : 16 < xs.length
  · have e1 : sealE n xs.length = 3 := by unfold sealE; rw [if_neg (by omega), if_pos h3]
    have e2 : sealR n xs = [] := by unfold sealR; rw [if_neg (by omega)]
    rw [e1, e2]; clear e1 e2
    go_enter Try.func27, Try.ntmps27
    go_wp2
    go_ret2
    exact ⟨_, rfl, Fr.nil _ _ _, Below.refl _ _⟩
  have e1 : sealE n xs.length = 0 := by unfold sealE; rw [if_neg (by omega), if_neg h3]
  have e2 : sealR n xs = sealB n xs := by unfold sealR; rw [if_pos e1]
  rw [e1, e2]
  refine (ref_seal_ok n p c xs w (by omega) (by omega) (by omega) hr hc).mono ?_
  rintro e w' ⟨v, rfl, ho, hb⟩
  exact ⟨v, rfl, ho.fr, hb⟩

set_option maxRecDepth 100000 in
set_option maxHeartbeats 4000000 in
theorem ref_mix_ok (b o : Nat) (q : Option Addr) (c d m : Nat) (l1 l2 : List Int) (w : World) (hm : m < 32) (r1 : Rd .u8 w (some ⟨b, o + m, none⟩) l2) (r2 : Rd .u8 w q l1) (e1 : l1.length = m) (e2 : l2.length = 32 - m) (hc : 32 ≤ c) (hd : 32 ≤ d) (hcm : c ≤ 9223372036854775807) (hdm : d ≤ 9223372036854775807) :
    Calls Try.prog 29 #[.slice (some ⟨b, o, none⟩) 32 c, .slice q 32 d, .int .i64 m] w fun e w' => ∃ v, e = .returned (.tuple #[v, .int .i64 0]) ∧ Own .u8 5 w' w.heap.size v (l1 ++ l2) ∧ Below w.heap.size w w' := by
  have z1 : (m : Int) ≤ (d : Int) := by omega
  have z2 : (0 : Int) ≤ (m : Int) := by omega
  have z3 : (m : Int) ≤ 32 := by omega
  have z4 : (m : Int) ≤ (c : Int) := by omega
  have hcm' : ¬ c = m := by omega
  have h32m : ¬ 32 = m := by omega
  have bl : b < w.heap.size := r1.lt (by omega)
  have E1 := Lib.hid e1; have E2 := Lib.hid e2
  clear e1 e2
  go_enter Try.func29, Try.ntmps29
  go_wp2_with fail
  go_region_law (first
    | (refine step_append_rd rfl (.const (.slice none 0 0)) (.tmp 26) 22 rfl 5 .u8 1 Try.underlying22 info_u8 (by decide) w.heap.size _ rfl [] (Own.nil .u8 5 _ _) q d l1 (by rw [E1.out]; simp [Act.eval, Act.put]) (r2.below (Below.refl _ w).drew) (by rw [E1.out]; simp; omega) (Nat.le_refl _) ?_; intro v1 w1 ho1 hg1; rw [List.nil_append] at ho1; have hb1 := below_app (Below.refl _ w).drew (Own.nil .u8 5 _ _) hg1 (Nat.le_refl _); have hB1 := hg1.size; clear hg1)
    | (refine step_append_rd rfl (.tmp 27) (.tmp 30) 22 rfl 5 .u8 1 Try.underlying22 info_u8 (by decide) w.heap.size _ (by simp [Act.eval, Act.put]) l1 ho1 (some ⟨b, o + m, none⟩) (c - m) l2 (by rw [E2.out]; simp [Act.eval, Act.put]) (r1.below hb1) (by rw [E1.out, E2.out]; omega) hB1 ?_; intro v2 w2 ho2 hg2; have hb2 := below_app hb1 ho1 hg2 hB1; clear hg2 ho1))
  go_wp2
  go_ret2
  exact ⟨_, rfl, ho2, hb2⟩
set_option maxRecDepth 100000 in
set_option maxHeartbeats 4000000 in
theorem ref_mix_all (b o : Nat) (q : Option Addr) (c d : Nat) (l1 : List Int) (w : World) (r2 : Rd .u8 w q l1) (e1 : l1.length = 32) (hc : 32 ≤ c) (hd : 32 ≤ d) (hcm : c ≤ 9223372036854775807) (hdm : d ≤ 9223372036854775807) :
    Calls Try.prog 29 #[.slice (some ⟨b, o, none⟩) 32 c, .slice q 32 d, .int .i64 32] w fun e w' => ∃ v, e = .returned (.tuple #[v, .int .i64 0]) ∧ Own .u8 5 w' w.heap.size v l1 ∧ Below w.heap.size w w' := by
  have z1 : (32 : Int) ≤ (d : Int) := by omega
  have z4 : (32 : Int) ≤ (c : Int) := by omega
  obtain ⟨P, hP⟩ : ∃ P, (if c = 32 then some (⟨b, o, none⟩ : Addr) else some ⟨b, o + 32, none⟩) = P := ⟨_, rfl⟩
  have E1 := Lib.hid e1
  clear e1
  go_enter Try.func29, Try.ntmps29
  go_wp2_with fail
  go_region_law (first
    | (refine step_append_rd rfl (.const (.slice none 0 0)) (.tmp 26) 22 rfl 5 .u8 1 Try.underlying22 info_u8 (by decide) w.heap.size _ rfl [] (Own.nil .u8 5 _ _) q d l1 (by rw [E1.out]; simp [Act.eval, Act.put]) (r2.below (Below.refl _ w).drew) (by rw [E1.out]; simp) (Nat.le_refl _) ?_; intro v1 w1 ho1 hg1; rw [List.nil_append] at ho1; have hb1 := below_app (Below.refl _ w).drew (Own.nil .u8 5 _ _) hg1 (Nat.le_refl _); have hB1 := hg1.size; clear hg1)
    | (refine step_append_rd rfl (.tmp 27) (.tmp 30) 22 rfl 5 .u8 1 Try.underlying22 info_u8 (by decide) w.heap.size _ (by simp [Act.eval, Act.put]) l1 ho1 P (c - 32) [] (by simp [Act.eval, Act.put]) (Rd.nil _ _ _) (by rw [E1.out]; simp) hB1 ?_; intro v2 w2 ho2 hg2; rw [List.append_nil] at ho2; have hb2 := below_app hb1 ho1 hg2 hB1; clear hg2 ho1))
  go_wp2
  go_ret2
  exact ⟨_, rfl, ho2, hb2⟩
set_option maxRecDepth 100000 in
set_option maxHeartbeats 4000000 in
theorem ref_mix_bad (p q : Option Addr) (n1 n2 c d : Nat) (many : Int) (w : World) (h1 : n1 ≤ 9223372036854775807) (h2 : n2 ≤ 9223372036854775807)
    (core : (((n1 : Int) != 32) = true) ∨ (n1 = 32 ∧ ((n2 : Int) != 32) = true) ∨ (n1 = 32 ∧ n2 = 32 ∧ (many < 0 ∨ 32 < many))) :
    Calls Try.prog 29 #[.slice p n1 c, .slice q n2 d, .int .i64 many] w fun e w' => e = .returned (.tuple #[.slice none 0 0, .int .i64 1]) ∧ w = w' := by
  rcases core with h | ⟨rfl, h'⟩ | ⟨rfl, rfl, h'' | h''⟩
  all_goals
    go_enter Try.func29, Try.ntmps29
    go_wp2
    all_goals
      go_ret2
      exact ⟨rfl, rfl⟩
theorem ref_mix_any (p q : Option Addr) (c d : Nat) (old next : List Int) (many : Int) (w : World) (hr : Rd .u8 w p old) (hq : Rd .u8 w q next) (hc : old.length ≤ c) (hd : next.length ≤ d) (hcm : c ≤ 9223372036854775807) (hdm : d ≤ 9223372036854775807) :
    Calls Try.prog 29 #[.slice p old.length c, .slice q next.length d, .int .i64 many] w (MixPost old next many w) := by
  by_cases h : mixOK old.length next.length many
  · have e1 : mixE old next many = 0 := if_pos h
    have e2 : mixB old next many = next.take many.toNat ++ old.drop many.toNat := if_pos h
    unfold MixPost
    rw [e1, e2]
    obtain ⟨h1, h2, h3, h4⟩ := h
    obtain ⟨b, o, rfl, hcell⟩ := hr (by omega)
    rw [h1] at hc ⊢; rw [h2] at hd ⊢
    obtain ⟨m, rfl⟩ := Int.eq_ofNat_of_zero_le h3
    rw [Int.toNat_natCast]
    rcases Nat.lt_or_ge m 32 with hm | hm
    · exact ref_mix_ok b o q c d m _ _ w hm (Rd.part hcell m) (hq.take m) (by simp; omega) (by simp; omega) hc hd hcm hdm
    · obtain rfl : m = 32 := by omega
      rw [List.take_of_length_le (by omega), List.drop_eq_nil_of_le (by omega), List.append_nil]
      exact ref_mix_all b o q c d next w hq h2 hc hd hcm hdm
  · have e1 : mixE old next many = 1 := if_neg h
    have e2 : mixB old next many = [] := if_neg h
    unfold MixPost
    rw [e1, e2]
    refine (ref_mix_bad p q old.length next.length c d many w (by omega) (by omega) ?_).mono ?_
    · simp only [bne_iff_ne]
      unfold mixOK at h; omega
    · rintro e w' ⟨rfl, rfl⟩; exact ⟨_, rfl, Own.nil _ _ _ _, Below.refl _ _⟩

/-- Cells of the call's own that may be written, of whatever numbers. -/
def Cells (k : IntKind) (B : Nat) (w : World) (p : Option Addr) (n : Nat) : Prop :=
  0 < n → ∃ g o, p = some ⟨g, o, none⟩ ∧ B ≤ g ∧ ∀ i, i < n → (∃ m, w.cell? ⟨g, o + i, none⟩ = some (.int k m)) ∧ w.frozen? ⟨g, o + i, none⟩ = false
theorem Fr.cells {k : IntKind} {B : Nat} {w : World} {v : Value} {xs : List Int} (h : Fr k B w v xs) : ∃ p c, v = .slice p xs.length c ∧ xs.length ≤ c ∧ c ≤ maxLen ∧ Cells k B w p xs.length ∧ Rd k w p xs := by
  obtain ⟨p, c, e, h1, h2, h3⟩ := h
  refine ⟨p, c, e, h1, h2, fun h0 => ?_, fun h0 => ?_⟩
  · obtain ⟨g, o, e, hB, hc⟩ := h3 h0
    exact ⟨g, o, e, hB, fun i hi => ⟨⟨_, (hc i hi).1⟩, (hc i hi).2⟩⟩
  · obtain ⟨g, o, e, hB, hc⟩ := h3 h0
    exact ⟨g, o, e, fun i hi => (hc i hi).1⟩
theorem Cells.set {k : IntKind} {B : Nat} {w : World} {p : Option Addr} {n : Nat} (h : Cells k B w p n) (a : Addr) (x : Int) : Cells k B (w.setCell a (.int k x)) p n := fun h0 => by
  obtain ⟨g, o, e, hB, hc⟩ := h h0
  exact ⟨g, o, e, hB, fun i hi => ⟨Go.someInt_setCell (hc i hi).1 a x, (World.frozen?_setCell _ _ _ _).trans (hc i hi).2⟩⟩
theorem Cells.below {k : IntKind} {B : Nat} {w w' : World} {p : Option Addr} {n : Nat} (h : Cells k B w p n) (hb : Below w.heap.size w w') : Cells k B w' p n := fun h0 => by
  obtain ⟨g, o, e, hB, hc⟩ := h h0
  refine ⟨g, o, e, hB, fun i hi => ?_⟩
  obtain ⟨⟨m, hm⟩, hf⟩ := hc i hi
  refine ⟨⟨m, cell_below hb hm⟩, ?_⟩
  rw [hb.frozen (World.block_lt_of_cell? w _ hm)]
  exact hf
end Go.Proofs.Ytnmgiiaejpaeeaa
