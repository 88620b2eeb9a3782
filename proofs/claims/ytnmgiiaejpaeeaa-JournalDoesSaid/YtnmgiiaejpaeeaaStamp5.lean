/- Contract of package stamp's Mix. -/
import Derived.Test.YtnmgiiaejpaeeaaProg
import Derived.Test.YtnmgiiaejpaeeaaStamp3
import Derived.Deep.RegionLaw
namespace Go.Proofs.Ytnmgiiaejpaeeaa
set_option linter.unusedVariables false
set_option linter.unusedSimpArgs false
open Go.RowKit

def mixOK (n m : Nat) (many : Int) : Prop := n = 32 ∧ m = 32 ∧ 0 ≤ many ∧ many ≤ 32
instance (n m : Nat) (many : Int) : Decidable (mixOK n m many) := inferInstanceAs (Decidable (_ ∧ _))
def mixE (old next : List Int) (many : Int) : Int := if mixOK old.length next.length many then 0 else 1
def mixB (old next : List Int) (many : Int) : List Int := if mixOK old.length next.length many then next.take many.toNat ++ old.drop many.toNat else []
theorem Rd.take {k : IntKind} {w : World} {p : Option Addr} {xs : List Int} (h : Rd k w p xs) (j : Nat) : Rd k w p (xs.take j) := fun hx => by
  obtain ⟨b, o, e, hc⟩ := h (by simp at hx; omega)
  refine ⟨b, o, e, fun i hi => ?_⟩
  simp at hi
  rw [hc i (by omega)]
  simp [List.getD, List.getElem?_take, show i < j by omega]
theorem splice_two {α : Type} (Z A C : List α) (m n : Nat) (hA : A.length = m) (hC : C.length = n) (hZ : Z.length = m + n) : splice (splice Z 0 A) m C = A ++ C := by
  subst hA hC
  simp only [splice, List.take_zero, List.nil_append, Nat.zero_add]
  rw [List.take_append_of_le_length (Nat.le_refl _), List.take_of_length_le (Nat.le_refl _), List.drop_eq_nil_of_le (by simp; omega), List.append_nil]
theorem mix_splice (old next : List Int) (m : Nat) (hm : m < 32) (h1 : old.length = 32) (h2 : next.length = 32) :
    splice (splice (List.replicate 32 (Value.int .u8 0)) 0 (((next.take m).map (.int .u8)).take 32)) m (((old.drop m).map (.int .u8)).take (32 - m)) = (next.take m ++ old.drop m).map (.int .u8) := by
  have f1 : ((next.take m).map (Value.int .u8)).length = m := by simp; omega
  have f2 : ((old.drop m).map (Value.int .u8)).length = 32 - m := by simp; omega
  rw [List.take_of_length_le (l := (next.take m).map (Value.int .u8)) (by omega), List.take_of_length_le (l := (old.drop m).map (Value.int .u8)) (by omega), List.map_append]
  exact splice_two _ _ _ m (32 - m) f1 f2 (by rw [List.length_replicate]; omega)
set_option maxRecDepth 100000 in
set_option maxHeartbeats 4000000 in
theorem mix_ok (p q : Option Addr) (c d m : Nat) (old next : List Int) (w : World) (hm : m < 32) (h1 : old.length = 32) (h2 : next.length = 32) (hr : Rd .u8 w p old) (hq : Rd .u8 w q next) (hc : 32 ≤ c) (hd : 32 ≤ d) (hcm : c ≤ 9223372036854775807) (hdm : d ≤ 9223372036854775807) :
    Calls Try.prog 26 #[.slice p 32 c, .slice q 32 d, .int .i64 m] w fun e w' => ∃ v, e = .returned (.tuple #[v, .int .i64 0]) ∧ Own .u8 5 w' w.heap.size v (next.take m ++ old.drop m) ∧ Below w.heap.size w w' := by
  obtain ⟨b, o, rfl, hcell⟩ := hr (by omega)
  have r1 : Rd .u8 w (some ⟨b, o + m, none⟩) (old.drop m) := Rd.part hcell m
  have r2 : Rd .u8 w q (next.take m) := hq.take m
  clear hr hq hcell
  have fin := mix_splice old next m hm h1 h2
  obtain ⟨l1, q1⟩ : ∃ l, l = next.take m := ⟨_, rfl⟩
  obtain ⟨l2, q2⟩ : ∃ l, l = old.drop m := ⟨_, rfl⟩
  have e1 : l1.length = m := by rw [q1]; simp; omega
  have e2 : l2.length = 32 - m := by rw [q2]; simp; omega
  rw [← q1] at r2 fin ⊢; rw [← q2] at r1 fin ⊢
  have hmk : ∀ w, (Instr.makeSlice 22 (.int .i64 32) (.int .i64 32)).run Try.prog w = .ok (.slice (some ⟨w.heap.size, 0, none⟩) 32 32) (w.alloc (.cells (List.replicate 32 (Value.int .u8 0)).toArray 5)) := fun _ => by kernel_rfl
  have z1 : (m : Int) ≤ (d : Int) := by omega
  have z2 : (0 : Int) ≤ (m : Int) := by omega
  have z3 : (m : Int) ≤ 32 := by omega
  have z4 : (m : Int) ≤ (c : Int) := by omega
  have hcm' : ¬ c = m := by omega
  have h32m : ¬ 32 = m := by omega
  have n1 : (splice (List.replicate 32 (Value.int .u8 0)) 0 ((l1.map (.int .u8)).take 32)).length = 32 := by rw [length_splice _ _ _ (by simp; omega)]; simp
  have N1 := Lib.hid n1
  clear n1
  have F := Lib.hid fin; have E1 := Lib.hid e1; have E2 := Lib.hid e2
  clear fin e1 e2 q1 q2 h1 h2
  go_enter Try.func26, Try.ntmps26
  go_wp2
  go_region_law (first
    | (refine step_copy_rds rfl (.tmp 27) (.tmp 30) 22 22 rfl 5 Try.underlying22 (by kernel_rfl) w.heap.size 0 32 32 q .u8 l1 d (by simp [Act.eval, Act.put]) (by rw [E1.out]; simp [Act.eval, Act.put]) (List.replicate 32 (Value.int .u8 0)) 5 (heap_drew_new w _) (r2.below (below_new w _).drew) (by simp; omega) w.heap.size w (below_new w _).drew (Nat.le_refl _) ?_; intro W1 hW1 hb1; rw [show min l1.length 32 = m by rw [E1.out]; omega])
    | (refine step_copy_rds rfl (.tmp 32) (.tmp 35) 22 22 rfl 5 Try.underlying22 (by kernel_rfl) w.heap.size m (32 - m) (32 - m) (some ⟨b, o + m, none⟩) .u8 l2 (c - m) (by simp [Act.eval, Act.put]) (by rw [E2.out]; simp [Act.eval, Act.put]) _ 5 hW1 (r1.below hb1) (by rw [N1.out, E2.out]; omega) w.heap.size w hb1 (Nat.le_refl _) ?_; intro W2 hW2 hb2; rw [F.out] at hW2))
  go_wp2
  go_ret2
  exact ⟨_, rfl, own_block hW2 (Nat.le_refl _) 32 (by rw [List.length_append, E1.out, E2.out]; omega) (by simp [maxLen]), hb2⟩
set_option maxRecDepth 100000 in
set_option maxHeartbeats 4000000 in
theorem mix_all (p q : Option Addr) (c d : Nat) (old next : List Int) (w : World) (h1 : old.length = 32) (h2 : next.length = 32) (hr : Rd .u8 w p old) (hq : Rd .u8 w q next) (hc : 32 ≤ c) (hd : 32 ≤ d) (hcm : c ≤ 9223372036854775807) (hdm : d ≤ 9223372036854775807) :
    Calls Try.prog 26 #[.slice p 32 c, .slice q 32 d, .int .i64 32] w fun e w' => ∃ v, e = .returned (.tuple #[v, .int .i64 0]) ∧ Own .u8 5 w' w.heap.size v next ∧ Below w.heap.size w w' := by
  obtain ⟨b, o, rfl, hcell⟩ := hr (by omega)
  clear hr hcell
  have fin : splice (List.replicate 32 (Value.int .u8 0)) 0 ((next.map (.int .u8)).take 32) = next.map (.int .u8) := by
    rw [List.take_of_length_le (by simp; omega)]
    simp [splice, h2]
  have hmk : ∀ w, (Instr.makeSlice 22 (.int .i64 32) (.int .i64 32)).run Try.prog w = .ok (.slice (some ⟨w.heap.size, 0, none⟩) 32 32) (w.alloc (.cells (List.replicate 32 (Value.int .u8 0)).toArray 5)) := fun _ => by kernel_rfl
  have z1 : (32 : Int) ≤ (d : Int) := by omega
  have z4 : (32 : Int) ≤ (c : Int) := by omega
  obtain ⟨P, hP⟩ : ∃ P, (if c = 32 then some (⟨b, o, none⟩ : Addr) else some ⟨b, o + 32, none⟩) = P := ⟨_, rfl⟩
  have F := Lib.hid fin; have E1 := Lib.hid h2
  clear fin h1 h2
  go_enter Try.func26, Try.ntmps26
  go_wp2
  go_region_law (first
    | (refine step_copy_rds rfl (.tmp 27) (.tmp 30) 22 22 rfl 5 Try.underlying22 (by kernel_rfl) w.heap.size 0 32 32 q .u8 next d (by simp [Act.eval, Act.put]) (by rw [E1.out]; simp [Act.eval, Act.put]) (List.replicate 32 (Value.int .u8 0)) 5 (heap_drew_new w _) (hq.below (below_new w _).drew) (by simp; omega) w.heap.size w (below_new w _).drew (Nat.le_refl _) ?_; intro W1 hW1 hb1; rw [show min next.length 32 = 32 by rw [E1.out]; omega]; rw [F.out] at hW1)
    | (refine step_copy_rds rfl (.tmp 32) (.tmp 35) 22 22 rfl 5 Try.underlying22 (by kernel_rfl) w.heap.size 0 0 0 P .u8 [] (c - 32) (by simp [Act.eval, Act.put]) (by simp [Act.eval, Act.put]) _ 5 hW1 (Rd.nil _ _ _) (by simp) w.heap.size w hb1 (Nat.le_refl _) ?_; intro W2 hW2 hb2; simp only [splice, List.map_nil, List.take_nil, List.length_nil, List.take_zero, List.nil_append, Nat.add_zero, List.drop_zero] at hW2))
  go_wp2
  go_ret2
  exact ⟨_, rfl, own_block hW2 (Nat.le_refl _) 32 E1.out (by simp [maxLen]), hb2⟩

set_option maxRecDepth 100000 in
set_option maxHeartbeats 4000000 in
theorem mix_bad (p q : Option Addr) (n1 n2 c d : Nat) (many : Int) (w : World) (h1 : n1 ≤ 9223372036854775807) (h2 : n2 ≤ 9223372036854775807)
    (core : (((n1 : Int) != 32) = true) ∨ (n1 = 32 ∧ ((n2 : Int) != 32) = true) ∨ (n1 = 32 ∧ n2 = 32 ∧ (many < 0 ∨ 32 < many))) :
    Calls Try.prog 26 #[.slice p n1 c, .slice q n2 d, .int .i64 many] w fun e w' => e = .returned (.tuple #[.slice none 0 0, .int .i64 1]) ∧ w = w' := by
  rcases core with h | ⟨rfl, h'⟩ | ⟨rfl, rfl, h'' | h''⟩
  all_goals
    go_enter Try.func26, Try.ntmps26
    go_wp2
    all_goals
      go_ret2
      exact ⟨rfl, rfl⟩

def MixPost (old next : List Int) (many : Int) (w : World) (e : Ending) (w' : World) : Prop :=
  ∃ v, e = .returned (.tuple #[v, .int .i64 (mixE old next many)]) ∧ Own .u8 5 w' w.heap.size v (mixB old next many) ∧ Below w.heap.size w w'
set_option maxRecDepth 100000 in
set_option maxHeartbeats 4000000 in
theorem mix_any (p q : Option Addr) (c d : Nat) (old next : List Int) (many : Int) (w : World) (hr : Rd .u8 w p old) (hq : Rd .u8 w q next) (hc : old.length ≤ c) (hd : next.length ≤ d) (hcm : c ≤ 9223372036854775807) (hdm : d ≤ 9223372036854775807) :
    Calls Try.prog 26 #[.slice p old.length c, .slice q next.length d, .int .i64 many] w (MixPost old next many w) := by
  by_cases h : mixOK old.length next.length many
  · have e1 : mixE old next many = 0 := if_pos h
    have e2 : mixB old next many = next.take many.toNat ++ old.drop many.toNat := if_pos h
    unfold MixPost
    rw [e1, e2]
    obtain ⟨h1, h2, h3, h4⟩ := h
    rw [h1] at hc ⊢; rw [h2] at hd ⊢
    obtain ⟨m, rfl⟩ := Int.eq_ofNat_of_zero_le h3
    rw [Int.toNat_natCast]
    rcases Nat.lt_or_ge m 32 with hm | hm
    · exact mix_ok p q c d m old next w hm h1 h2 hr hq hc hd hcm hdm
    · obtain rfl : m = 32 := by omega
      rw [List.take_of_length_le (by omega), List.drop_eq_nil_of_le (by omega), List.append_nil]
      exact mix_all p q c d old next w h1 h2 hr hq hc hd hcm hdm
  · have e1 : mixE old next many = 1 := if_neg h
    have e2 : mixB old next many = [] := if_neg h
    unfold MixPost
    rw [e1, e2]
    refine (mix_bad p q old.length next.length c d many w (by omega) (by omega) ?_).mono ?_
    · simp only [bne_iff_ne]
      unfold mixOK at h; omega
    · rintro e w' ⟨rfl, rfl⟩; exact ⟨_, rfl, Own.nil _ _ _ _, Below.refl _ _⟩
end Go.Proofs.Ytnmgiiaejpaeeaa
