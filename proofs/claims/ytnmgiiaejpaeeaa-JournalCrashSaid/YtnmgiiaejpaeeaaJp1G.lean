/- Plain laws of journals: what a group reads as; what an append leaves. -/
import Derived.Test.YtnmgiiaejpaeeaaG5
import Derived.Test.YtnmgiiaejpaeeaaStamp6
namespace Go.Proofs.Ytnmgiiaejpaeeaa
set_option linter.unusedVariables false
set_option linter.unusedSimpArgs false
open Go.RowKit
/-! ### Parts -/
theorem stamp_ok {g : Lg} (h : lgOK g) : 1 ≤ stampOf g ∧ stampOf g ≤ 4611686018427387904 := by
  obtain ⟨_, _, _, _, h5, h6, _, _, h9, h10⟩ := h
  unfold stampOf; omega
theorem stamp_div {g : Lg} (h : lgOK g) : stampOf g / 1048576 = g.gen := by
  obtain ⟨_, _, _, _, h5, h6, _, _, h9, h10⟩ := h
  unfold stampOf; omega
theorem pay_len {i P : Nat} {own : List Int} (h : own.length ≤ 11) : (partPay i P own).length ≤ 16 := by unfold partPay; simp; omega
theorem part_length {g : Lg} {i P : Nat} {own : List Int} (h : own.length ≤ 11) : (partB g i P own).length = 32 := sealB_length _ (pay_len h)
theorem part_isB {g : Lg} {i P : Nat} {own : List Int} (hi : i < 65536) (hP : P < 65536) (h : own.length ≤ 11) (hb : IsB own) : IsB (partB g i P own) := by
  unfold partB
  refine sealB_isB _ ?_
  unfold partPay
  refine IsB.append (fun x hx => ?_) hb
  simp only [List.mem_cons, List.mem_nil_iff, or_false] at hx
  omega
theorem part_open {g : Lg} (hg : lgOK g) {i P : Nat} {own : List Int} (h : own.length ≤ 11) : openE (partB g i P own) = 0 ∧ openN (partB g i P own) = stampOf g ∧ openP (partB g i P own) = partPay i P own ++ List.replicate (16 - (partPay i P own).length) 0 := by
  have h1 := stamp_ok hg
  have he := openE_seal (stampOf g) (partPay i P own) h1.1 h1.2 (pay_len h)
  refine ⟨he, ?_, openP_seal _ _ h1.1 h1.2 (pay_len h)⟩
  rw [show openN (partB g i P own) = un8 (partB g i P own) from if_pos he]
  exact un8_seal _ _ h1.1 h1.2
/-- What a sector is read as. -/
theorem sec_read {d : Dk} (h : checkOK d) (hd : d.dead = false) {k : Int} {n : Nat} (hk : k = n) (hn : (n + 1) * 32 ≤ d.dry.length) : readE d k = 0 ∧ readB d k = sees d n := by
  subst hk; exact read_ok h hd hn
theorem piece_part {d : Dk} {g : Lg} {k : Int} {n i P : Nat} {own : List Int} (h : checkOK d) (hd : d.dead = false) (hg : lgOK g) (hk : g.base + k = n) (hn : (n + 1) * 32 ≤ d.dry.length)
    (hs : sees d n = partB g i P own) (ho : own.length ≤ 11) (hi : i < 65536) (hP : P < 65536) : pieceR d g k = some ((i : Int), (P : Int), own) := by
  obtain ⟨r1, r2⟩ := sec_read h hd hk hn
  obtain ⟨o1, o2, o3⟩ := part_open hg (i := i) (P := P) ho
  rw [hs] at r2
  have hp : openP (readB d (g.base + k)) = ((i : Int) % 256) :: ((i : Int) / 256) :: ((P : Int) % 256) :: ((P : Int) / 256) :: (own.length : Int) :: (own ++ List.replicate (16 - (partPay i P own).length) 0) := by rw [r2, o3]; simp [partPay]
  rw [piece_yes r1 (by rw [r2]; exact o1) (by rw [r2]; exact o2) hp (by omega)]
  congr 2
  · omega
  · congr 1
    · omega
    · rw [Int.toNat_natCast, List.take_append_of_le_length (Nat.le_refl _), List.take_length]
theorem piece_not {d : Dk} {g : Lg} {k : Int} {n : Nat} (h : checkOK d) (hd : d.dead = false) (hk : g.base + k = n) (hn : (n + 1) * 32 ≤ d.dry.length) (hs : ¬ (openE (sees d n) = 0 ∧ openN (sees d n) = stampOf g)) : pieceR d g k = none := by
  obtain ⟨r1, r2⟩ := sec_read h hd hk hn
  exact piece_no fun hh => hs (by rw [← r2]; exact ⟨hh.2.1, hh.2.2.1⟩)
/-! ### Groups -/
theorem take_chunk (text : List Int) (i : Nat) : text.take (11 * i) ++ chunkOf text i = text.take (11 * (i + 1)) := by
  unfold chunkOf
  rw [show 11 * (i + 1) = 11 * i + 11 by omega]
  conv => rhs; rw [← List.take_append_drop (11 * i) (text.take (11 * i + 11))]
  rw [List.take_take, show min (11 * i) (11 * i + 11) = 11 * i by omega]
theorem chunk_isB {text : List Int} (h : IsB text) (i : Nat) : IsB (chunkOf text i) := fun x hx => h x (List.mem_of_mem_take (List.mem_of_mem_drop hx))
/-- A text's group lies whole in a journal's next sectors. -/
def Stands (d : Dk) (g : Lg) (text : List Int) (P : Nat) : Prop := ∀ i, i < P → ∃ n : Nat, g.base + (g.pos + i) = n ∧ (n + 1) * 32 ≤ d.dry.length ∧ sees d n = partB g i P (chunkOf text i)
theorem group_from {d : Dk} {g : Lg} {text : List Int} {P : Nat} (h : checkOK d) (hd : d.dead = false) (hg : lgOK g) (hP : P < 65536) (hfit : g.pos + P ≤ g.size) (hpos : 1 ≤ P) (hl : text.length ≤ 11 * P) (hk : ∀ i, i < P → 11 * i < text.length ∨ (text.length = 0 ∧ i = 0)) (hs : Stands d g text P) :
    ∀ (n i f : Nat) (ps : Int), i + n = P → 1 ≤ n → n ≤ f → (i ≠ 0 → ps = P) → groupGo d g f i ps (text.take (11 * i)) = some (text, (P : Int))
  | 0, _, _, _, _, h1, _, _ => by omega
  | n + 1, i, 0, _, _, _, h2, _ => by omega
  | n + 1, i, f + 1, ps, hn, _, hf, hps => by
    obtain ⟨m, e1, e2, e3⟩ := hs i (by omega)
    have hc := chunk_len text i
    have hp := piece_part h hd hg e1 e2 e3 (by omega) (by omega) hP
    have hpp : partsOf i ps (P : Int) = P := by
      unfold partsOf
      by_cases h0 : i = 0
      · rw [if_pos h0]
      · rw [if_neg h0]; exact hps h0
    rw [go_some (by omega) hp, hpp, take_chunk]
    have hgood : goodP i (P : Int) i P (chunkOf text i).length := by
      refine ⟨rfl, rfl, by omega, ?_⟩
      rw [hc]
      rcases hk i (by omega) with h1 | ⟨h1, h2⟩
      · by_cases h3 : i + 1 < P
        · rcases hk (i + 1) h3 with h4 | h4
          · left; omega
          · omega
        · right; omega
      · subst h2
        by_cases h3 : 1 < P
        · rcases hk 1 h3 with h4 | h4 <;> omega
        · right; omega
    rw [if_pos hgood]
    by_cases hlt : i + 1 < P
    · rw [if_pos (by omega)]
      exact group_from h hd hg hP hfit hpos hl hk hs n (i + 1) f P (by omega) (by omega) (by omega) (fun _ => rfl)
    · rw [if_neg (by omega), List.take_of_length_le (by omega)]
theorem group_stands {d : Dk} {g : Lg} {text : List Int} {P : Nat} (h : checkOK d) (hd : d.dead = false) (hg : lgOK g) (hlong : ¬ 65536 < text.length) (hP : needN text.length = P) (hfit : g.pos + P ≤ g.size) (hs : Stands d g text P) : groupR d g = some (text, (P : Int)) := by
  obtain ⟨P', e, p1, p2, p3, p4⟩ := need_parts hlong
  obtain rfl : P' = P := by omega
  have hsz : g.size ≤ 4096 := hg.2.2.2.1
  have h0 : 0 ≤ g.pos := hg.2.2.2.2.2.2.1
  exact group_from h hd hg (by omega) hfit p1 p3 p4 hs P' 0 4097 0 (by omega) p1 (by omega) (fun h => absurd rfl h)
theorem torn_from {d : Dk} {g : Lg} {text : List Int} {P j : Nat} (h : checkOK d) (hd : d.dead = false) (hg : lgOK g) (hP : P < 65536) (hj : j < P)
    (hs : ∀ i, i < j → ∃ n : Nat, g.base + (g.pos + i) = n ∧ (n + 1) * 32 ≤ d.dry.length ∧ sees d n = partB g i P (chunkOf text i)) (hn : g.pos + j < g.size → pieceR d g (g.pos + j) = none) :
    ∀ (n i f : Nat) (ps : Int) (acc : List Int), i + n = j → (i ≠ 0 → ps = P) → groupGo d g f i ps acc = none
  | _, _, 0, _, _, _, _ => rfl
  | 0, i, f + 1, ps, acc, hi, _ => by
    obtain rfl : i = j := by omega
    by_cases hlt : g.pos + i < g.size
    · exact go_none hlt (hn hlt)
    · exact go_far hlt
  | n + 1, i, f + 1, ps, acc, hi, hps => by
    obtain ⟨m, e1, e2, e3⟩ := hs i (by omega)
    have hc := chunk_len text i
    have hp := piece_part h hd hg e1 e2 e3 (by omega) (by omega) hP
    have hpp : partsOf i ps (P : Int) = P := by
      unfold partsOf
      by_cases h0 : i = 0
      · rw [if_pos h0]
      · rw [if_neg h0]; exact hps h0
    by_cases hlt : g.pos + i < g.size
    · rw [go_some hlt hp, hpp]
      split
      · rw [if_pos (by omega)]
        exact torn_from h hd hg hP hj hs hn n (i + 1) f P _ (by omega) (fun _ => rfl)
      · rfl
    · exact go_far hlt
end Go.Proofs.Ytnmgiiaejpaeeaa
