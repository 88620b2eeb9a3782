/- Contracts of package stamp: Seal. -/
import Derived.Test.YtnmgiiaejpaeeaaProg
import Derived.Test.YtnmgiiaejpaeeaaStampP
import Derived.Test.YtnmgiiaejpaeeaaShelf
import Derived.StillTailTactics
namespace Go.Proofs.Ytnmgiiaejpaeeaa
set_option linter.unusedVariables false
set_option linter.unusedSimpArgs false
open Go.RowKit

theorem join3 (a b c : List UInt8) : Lib.join [a, b, c] [] = a ++ (b ++ c) := by simp [Lib.join, List.intercalate]
theorem bytesOf_append (xs ys : List Int) : Lib.bytesOf (xs ++ ys) = Lib.bytesOf xs ++ Lib.bytesOf ys := by simp [Lib.bytesOf]
theorem rd_part {w : World} {g : Nat} {cs : List Int} {t : TypeId} (hg : w.heap[g]? = some (.cells (cs.map (.int .u8)).toArray t (0, 0))) (xs : List Int) (o : Nat)
    (h : ∀ i, i < xs.length → cs[o + i]? = some (xs.getD i 0)) : Rd .u8 w (some ⟨g, o, none⟩) xs := fun _ => by
  refine ⟨g, o, rfl, fun i hi => ?_⟩
  rw [cell_of_row w g (o + i) _ _ _ hg]
  simp [h i hi]
set_option maxRecDepth 100000 in
set_option maxHeartbeats 2000000 in
theorem octets_any (g : Nat) (w : World) (hd pay tl : List Int) (h1 : hd.length = 8) (h2 : pay.length = 16) (h3 : tl.length = 8) (b1 : IsB hd) (b2 : IsB pay) (b3 : IsB tl)
    (hg : w.heap[g]? = some (.cells ((hd ++ (pay ++ tl)).map (.int .u8)).toArray 91 (0, 0))) :
    Calls Try.prog 66 #[.pointer (some ⟨g, 0, none⟩)] w fun e w' =>
      ∃ v, e = .returned v ∧ Fr .u8 w.heap.size w' v (hd ++ (pay ++ tl)) ∧ Below w.heap.size w w' := by
  have hlt : g < w.heap.size := (Array.getElem?_eq_some_iff.1 hg).1
  have r1 : Rd .u8 w (some ⟨g, 0, none⟩) hd := rd_part hg hd 0 fun i hi => by
    rw [Nat.zero_add, List.getElem?_append_left hi]; simp [List.getD, List.getElem?_eq_getElem hi]
  have r2 : Rd .u8 w (some ⟨g, 8, none⟩) pay := rd_part hg pay 8 fun i hi => by
    rw [List.getElem?_append_right (by omega), List.getElem?_append_left (by omega)]; simp [List.getD, h1, List.getElem?_eq_getElem hi]
  have r3 : Rd .u8 w (some ⟨g, 24, none⟩) tl := rd_part hg tl 24 fun i hi => by
    rw [List.getElem?_append_right (by omega), List.getElem?_append_right (by omega)]; simp [List.getD, h1, h2, List.getElem?_eq_getElem hi, show 24 + i - 8 - 16 = i by omega]
  have jn : ∀ W : World, W = (w.alloc (.cells #[.slice (some ⟨g, 0, none⟩) 8 8, .slice (some ⟨g, 8, none⟩) 16 16, .slice (some ⟨g, 24, none⟩) 8 8] 22)).drew →
      Calls Try.prog 93 #[.slice (some ⟨w.heap.size, 0, none⟩) 3 3, .slice none 0 0] W fun e w' => ∃ v, e = .returned v ∧ Fr .u8 w.heap.size w' v (hd ++ (pay ++ tl)) ∧ Below w.heap.size w w' := by
    intro W hW
    have hbw : Below w.heap.size w W := by rw [hW]; exact ((Below.refl _ _).alloc (Nat.le_refl _) _).drew
    have q1 := (r1.below hbw).holds b1 (by simp) 8
    have q2 := (r2.below hbw).holds b2 (by simp) 16
    have q3 := (r3.below hbw).holds b3 (by simp) 8
    rw [h1] at q1; rw [h2] at q2; rw [h3] at q3
    have hs : W.heap.size = w.heap.size + 1 := by rw [hW]; simp
    have c0 : W.heap[w.heap.size]? = some (.cells #[.slice (some ⟨g, 0, none⟩) 8 8, .slice (some ⟨g, 8, none⟩) 16 16, .slice (some ⟨g, 24, none⟩) 8 8] 22 (0, 0)) := by rw [hW]; exact heap_alloc_new w _
    refine (Try.bytes_Join_many w.heap.size 0 3 3 [.slice (some ⟨g, 0, none⟩) 8 8, .slice (some ⟨g, 8, none⟩) 16 16, .slice (some ⟨g, 24, none⟩) 8 8] [Lib.bytesOf hd, Lib.bytesOf pay, Lib.bytesOf tl] (.slice none 0 0) [] W rfl (by omega)
      ⟨rfl, fun i v hv => ?_, fun i v l hv hl => ?_⟩ (by omega) ⟨none, 0, rfl, fun _ => rfl, fun a h => by simp at h⟩ (by omega) (by simp [Lib.lens, bytesOf_length, h1, h2, h3])).mono ?_
    · rw [Addr.add_lit, cell_of_row W _ _ _ _ _ c0, Nat.zero_add]
      simpa using hv
    · match i, hv, hl with
      | 0, hv, hl => simp at hv hl; subst hv; subst hl; exact q1
      | 1, hv, hl => simp at hv hl; subst hv; subst hl; exact q2
      | 2, hv, hl => simp at hv hl; subst hv; subst hl; exact q3
    · rintro e w' ⟨v, rfl, hf, hb⟩
      have hf' := fr_of_fresh hf
      rw [join3, ← bytesOf_append, ← bytesOf_append, numsOf_bytesOf (b1.append (b2.append b3))] at hf'
      exact ⟨v, rfl, hf'.base (by omega), hbw.trans (hb.mono (by omega))⟩
  clear r1 r2 r3
  go_enter Try.func66, Try.ntmps66
  go_wp2
  go_still_tail 12, (by kernel_rfl)
  go_wp2_with fail
  refine (jn _ rfl).mono ?_
  rintro e w' ⟨v, rfl, hf, hb⟩
  go_wp2
  go_ret
  exact ⟨v, rfl, hf, hb⟩

def sealE (n : Int) (m : Nat) : Int := if n < 1 ∨ 4611686018427387904 < n then 1 else if 16 < m then 3 else 0
def sealR (n : Int) (xs : List Int) : List Int := if sealE n xs.length = 0 then sealB n xs else []
set_option maxRecDepth 100000 in
set_option maxHeartbeats 2000000 in
theorem seal_any (n : Int) (p : Option Addr) (c : Nat) (xs : List Int) (w : World) (hr : Rd .u8 w p xs) (hb : IsB xs) (hc : xs.length ≤ c) (hm : xs.length ≤ 9223372036854775807) :
    Calls Try.prog 22 #[.int .i64 n, .slice p xs.length c] w fun e w' =>
      ∃ v, e = .returned (.tuple #[v, .int .i64 (sealE n xs.length)]) ∧ Fr .u8 w.heap.size w' v (sealR n xs) ∧ Below w.heap.size w w' := by
  by_cases h1 : n < 1
  · have e1 : sealE n xs.length = 1 := if_pos (.inl h1)
    have e2 : sealR n xs = [] := by unfold sealR; rw [if_neg (by omega)]
    rw [e1, e2]; clear e1 e2
    go_enter Try.func22, Try.ntmps22
    go_wp2
    go_ret2
    exact ⟨_, rfl, Fr.nil _ _ _, Below.refl _ _⟩
  by_cases h2 : 4611686018427387904 < n
  · have e1 : sealE n xs.length = 1 := if_pos (.inr h2)
    have e2 : sealR n xs = [] := by unfold sealR; rw [if_neg (by omega)]
    rw [e1, e2]; clear e1 e2
    go_enter Try.func22, Try.ntmps22
    go_wp2
    go_ret2
    exact ⟨_, rfl, Fr.nil _ _ _, Below.refl _ _⟩
  by_cases h3 : 16 < xs.length
  · have e1 : sealE n xs.length = 3 := by unfold sealE; rw [if_neg (by omega), if_pos h3]
    have e2 : sealR n xs = [] := by unfold sealR; rw [if_neg (by omega)]
    rw [e1, e2]; clear e1 e2
    go_enter Try.func22, Try.ntmps22
    go_wp2
    go_ret2
    exact ⟨_, rfl, Fr.nil _ _ _, Below.refl _ _⟩
  have e1 : sealE n xs.length = 0 := by unfold sealE; rw [if_neg (by omega), if_neg h3]
  have e2 : sealR n xs = sealB n xs := by unfold sealR; rw [if_pos e1]
  rw [e1, e2]; clear e1 e2
  have hx : xs.length ≤ 16 := by omega
  go_enter Try.func22, Try.ntmps22
  go_wp2
  refine wp_loop_rounds 9 ?_
  iterate 8 (rw [rounds_succ]; go_wp2)
  rw [rounds_succ]
  go_wp2_with (refine wpList_copy_rd rfl (.tmp 35) (.tmp 36) 22 22 rfl 5 Try.underlying22 (by kernel_rfl) _ _ _ _ _ .u8 xs _ rfl rfl _ _ (heap_alloc_new _ _) (hr.below ((Below.refl _ _).alloc (Nat.le_refl _) _)) (by simp; omega) ?_; rw [setRow_alloc])
  rw [seal_splice n xs (by omega) (by omega) hx]
  case hL => rfl
  refine (octets_any w.heap.size _ (le8 n) (pad16 xs) (le8 n) rfl (pad16_length hx) rfl (le8_isB n) (pad16_isB hb) (le8_isB n) (heap_alloc_new _ _)).mono ?_
  rintro e w' ⟨v, rfl, hf, hbw⟩
  go_wp2
  go_ret2
  exact ⟨v, rfl, hf.base (by simp), ((Below.refl _ _).alloc (Nat.le_refl _) _).trans (hbw.mono (by simp))⟩
end Go.Proofs.Ytnmgiiaejpaeeaa
