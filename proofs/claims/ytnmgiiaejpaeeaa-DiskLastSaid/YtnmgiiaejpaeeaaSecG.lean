/- Plain laws of disks, sector by sector. -/
import Derived.Test.YtnmgiiaejpaeeaaG4
namespace Go.Proofs.Ytnmgiiaejpaeeaa
set_option linter.unusedVariables false
set_option linter.unusedSimpArgs false
open Go.RowKit
/-- A sector of what is kept. -/
def sec (b : List Int) (k : Nat) : List Int := (b.take (k * 32 + 32)).drop (k * 32)
theorem sec_get (b : List Int) (k i : Nat) : (sec b k)[i]? = if i < 32 then b[k * 32 + i]? else none := by
  unfold sec
  rw [List.getElem?_drop, List.getElem?_take]
  by_cases h : i < 32
  · rw [if_pos (by omega), if_pos h]
  · rw [if_neg (by omega), if_neg h]
theorem sec_length {b : List Int} {k : Nat} (h : (k + 1) * 32 ≤ b.length) : (sec b k).length = 32 := by
  unfold sec; simp; omega
theorem splice_get (b xs : List Int) (o i : Nat) (h : o + xs.length ≤ b.length) : (splice b o xs)[i]? = if i < o then b[i]? else if i < o + xs.length then xs[i - o]? else b[i]? := by
  unfold splice
  by_cases h1 : i < o
  · rw [if_pos h1, List.getElem?_append_left (by simp; omega), List.getElem?_take_of_lt h1]
  · rw [if_neg h1, List.getElem?_append_right (by simp; omega)]
    have e : (b.take o).length = o := by simp; omega
    rw [e]
    by_cases h2 : i < o + xs.length
    · rw [if_pos h2, List.getElem?_append_left (by omega)]
    · rw [if_neg h2, List.getElem?_append_right (by omega), List.getElem?_drop]
      congr 1; omega
theorem sec_splice_same {b xs : List Int} {k : Nat} (h : (k + 1) * 32 ≤ b.length) (hx : xs.length ≤ 32) : sec (splice b (k * 32) xs) k = xs ++ (sec b k).drop xs.length := by
  apply List.ext_getElem?
  intro i
  rw [sec_get, splice_get _ _ _ _ (by omega)]
  by_cases h1 : i < xs.length
  · rw [if_pos (by omega), if_neg (by omega), if_pos (by omega), List.getElem?_append_left h1]
    congr 1; omega
  · rw [List.getElem?_append_right (by omega), List.getElem?_drop, sec_get, show xs.length + (i - xs.length) = i by omega]
    by_cases h2 : i < 32
    · rw [if_pos h2, if_pos h2, if_neg (by omega), if_neg (by omega)]
    · rw [if_neg h2, if_neg h2]
theorem sec_splice_other {b xs : List Int} {k j : Nat} (h : (j + 1) * 32 ≤ b.length) (hx : xs.length ≤ 32) (hk : j ≠ k) : sec (splice b (j * 32) xs) k = sec b k := by
  apply List.ext_getElem?
  intro i
  rw [sec_get, sec_get]
  by_cases h2 : i < 32
  · rw [if_pos h2, if_pos h2, splice_get _ _ _ _ (by omega)]
    rcases Nat.lt_or_gt_of_ne hk with h3 | h3
    · rw [if_neg (by omega), if_neg (by omega)]
    · rw [if_pos (by omega)]
  · rw [if_neg h2, if_neg h2]
/-- What settling does to a sector. -/
def settleS (many : Nat → Nat) : Nat → List Wr → Nat → List Int → List Int
  | _, [], _, s => s
  | i, x :: l, k, s => settleS many (i + 1) l k (if x.pos = (k : Int) then x.b.take (many i) ++ s.drop (x.b.take (many i)).length else s)
theorem sec_settle (many : Nat → Nat) (k : Nat) : ∀ (l : List Wr) (i : Nat) (dry : List Int), (∀ x ∈ l, 0 ≤ x.pos ∧ (x.pos.toNat + 1) * 32 ≤ dry.length ∧ x.b.length = 32) → sec (settleAt many i l dry) k = settleS many i l k (sec dry k)
  | [], _, _, _ => rfl
  | x :: l, i, dry, h => by
    obtain ⟨h1, h2, h3⟩ := h x (by simp)
    have hl : (x.b.take (many i)).length ≤ 32 := by simp; omega
    have hsp : (splice dry (x.pos.toNat * 32) (x.b.take (many i))).length = dry.length := length_splice _ _ _ (by omega)
    show sec (settleAt many (i + 1) l (splice dry (x.pos.toNat * 32) (x.b.take (many i)))) k = settleS many (i + 1) l k _
    rw [sec_settle many k l (i + 1) _ (fun y hy => by rw [hsp]; exact h y (by simp [hy]))]
    congr 1
    by_cases hk : x.pos = (k : Int)
    · obtain rfl : x.pos.toNat = k := by omega
      rw [if_pos hk, sec_splice_same h2 hl]
    · rw [if_neg hk, sec_splice_other h2 hl (by omega)]
theorem lastOf_push (k : Int) : ∀ (l : List Wr) (x : Wr), lastOf k (l ++ [x]) = (lastOf k l).or (if x.pos = k then some x.b else none)
  | [], x => by simp [lastOf]
  | y :: l, x => by
    simp only [List.cons_append, lastOf]
    split
    · rfl
    · exact lastOf_push k l x
theorem settleS_full {many : Nat → Nat} {k : Nat} : ∀ (l : List Wr) (i : Nat) (s : List Int), (∀ j, i ≤ j → j < i + l.length → many j = 32) → (∀ x ∈ l, x.b.length = 32) → s.length = 32 → settleS many i l k s = (lastOf k l.reverse).getD s
  | [], _, _, _, _, _ => rfl
  | x :: l, i, s, hm, hl, hs => by
    show settleS many (i + 1) l k _ = _
    have h1 := hl x (by simp)
    have h2 := hm i (Nat.le_refl _) (by simp)
    rw [List.reverse_cons, lastOf_push]
    by_cases hk : x.pos = (k : Int)
    · rw [if_pos hk, if_pos hk, h2, List.take_of_length_le (by omega), List.drop_of_length_le (by omega), List.append_nil]
      rw [settleS_full l (i + 1) _ (fun j h3 h4 => hm j (by omega) (by simp; omega)) (fun y hy => hl y (by simp [hy])) h1]
      cases lastOf (k : Int) l.reverse <;> rfl
    · rw [if_neg hk, if_neg hk]
      rw [settleS_full l (i + 1) _ (fun j h3 h4 => hm j (by omega) (by simp; omega)) (fun y hy => hl y (by simp [hy])) hs]
      cases lastOf (k : Int) l.reverse <;> rfl
theorem settleS_append (many : Nat → Nat) (k : Nat) : ∀ (l r : List Wr) (i : Nat) (s : List Int), settleS many i (l ++ r) k s = settleS many (i + l.length) r k (settleS many i l k s)
  | [], r, i, s => by simp [settleS]
  | x :: l, r, i, s => by
    show settleS many (i + 1) (l ++ r) k _ = settleS many (i + (l.length + 1)) r k (settleS many (i + 1) l k _)
    rw [settleS_append many k l r (i + 1), show i + 1 + l.length = i + (l.length + 1) by omega]
theorem settleS_none {many : Nat → Nat} {k : Nat} : ∀ (l : List Wr) (i : Nat) (s : List Int), (∀ x ∈ l, x.pos ≠ (k : Int)) → settleS many i l k s = s
  | [], _, _, _ => rfl
  | x :: l, i, s, h => by
    show settleS many (i + 1) l k _ = _
    rw [if_neg (h x (by simp))]
    exact settleS_none l (i + 1) s fun y hy => h y (by simp [hy])
theorem settleS_zero {many : Nat → Nat} {k : Nat} : ∀ (l : List Wr) (i : Nat) (s : List Int), (∀ j, i ≤ j → j < i + l.length → many j = 0) → settleS many i l k s = s
  | [], _, _, _ => rfl
  | x :: l, i, s, h => by
    show settleS many (i + 1) l k _ = _
    rw [h i (Nat.le_refl _) (by simp)]
    have e : (if x.pos = (k : Int) then x.b.take 0 ++ s.drop (x.b.take 0).length else s) = s := by simp
    rw [e]
    exact settleS_zero l (i + 1) s fun j h3 h4 => h j (by omega) (by simp; omega)
theorem settleAt_congr {many many' : Nat → Nat} : ∀ (l : List Wr) (i : Nat) (dry : List Int), (∀ j, i ≤ j → j < i + l.length → many j = many' j) → settleAt many i l dry = settleAt many' i l dry
  | [], _, _, _ => rfl
  | x :: l, i, dry, h => by
    show settleAt many (i + 1) l _ = settleAt many' (i + 1) l _
    rw [h i (Nat.le_refl _) (by simp)]
    exact settleAt_congr l (i + 1) _ fun j h3 h4 => h j (by omega) (by simp; omega)
theorem settleAt_zero : ∀ (l : List Wr) (i : Nat) (dry : List Int), settleAt (fun _ => 0) i l dry = dry
  | [], _, _ => rfl
  | x :: l, i, dry => by
    show settleAt (fun _ => 0) (i + 1) l _ = dry
    rw [show splice dry (x.pos.toNat * 32) (x.b.take 0) = dry by simp [splice]]
    exact settleAt_zero l (i + 1) dry
/-! ### reads -/
theorem far_no {d : Dk} {k : Int} (h : farD d k = false) : ∃ n : Nat, k = n ∧ (n + 1) * 32 ≤ d.dry.length := by
  unfold farD at h
  simp only [decide_eq_false_iff_not] at h
  exact ⟨k.toNat, by omega, by omega⟩
theorem far_nat {d : Dk} {n : Nat} (h : (n + 1) * 32 ≤ d.dry.length) : farD d n = false := by
  unfold farD
  simp only [decide_eq_false_iff_not]
  omega
theorem read_zero {d : Dk} {k : Int} (h : readE d k = 0) : checkOK d ∧ d.dead = false ∧ ∃ n : Nat, k = n ∧ (n + 1) * 32 ≤ d.dry.length ∧ readB d k = (lastOf n d.wet.reverse).getD (sec d.dry n) := by
  have hB : readB d k = (lastOf k d.wet.reverse).getD ((d.dry.take (k.toNat * 32 + 32)).drop (k.toNat * 32)) := by unfold readB; rw [if_neg (by rw [h]; decide)]
  unfold readE at h
  split at h
  · contradiction
  · rename_i ha
    obtain ⟨h1, h2⟩ := alive_zero (Decidable.not_not.1 ha)
    split at h
    · contradiction
    · rename_i hf
      obtain ⟨n, rfl, hn⟩ := far_no (Bool.eq_false_iff.2 hf)
      refine ⟨h1, h2, n, rfl, hn, ?_⟩
      rw [hB]; rfl
theorem read_ok {d : Dk} {n : Nat} (h : checkOK d) (hd : d.dead = false) (hn : (n + 1) * 32 ≤ d.dry.length) : readE d n = 0 ∧ readB d n = (lastOf n d.wet.reverse).getD (sec d.dry n) := by
  have he : readE d n = 0 := by unfold readE; rw [if_neg (by rw [alive_of_ok h hd]; decide), if_neg (by rw [far_nat hn]; decide)]
  refine ⟨he, ?_⟩
  unfold readB; rw [if_neg (by rw [he]; decide)]; rfl
theorem placed_len {d : Dk} (h : checkOK d) : ∀ x ∈ d.wet, x.b.length = 32 := fun x hx => (placed_of_ok h x hx).2.2
/-- What a sector reads as. -/
def sees (d : Dk) (n : Nat) : List Int := (lastOf n d.wet.reverse).getD (sec d.dry n)
theorem sees_length {d : Dk} (h : checkOK d) {n : Nat} (hn : (n + 1) * 32 ≤ d.dry.length) : (sees d n).length = 32 := by
  unfold sees
  cases e : lastOf (n : Int) d.wet.reverse with
  | none => exact sec_length hn
  | some b =>
    obtain ⟨x, hx, rfl⟩ := lastOf_mem e
    exact placed_len h x (by simpa using hx)
/-! ### writes -/
theorem write_zero {d : Dk} {k : Int} {b : List Int} (h : writeE d k b = 0) : checkOK d ∧ b.length = 32 ∧ d.dead = false ∧ farD d k = false ∧ d.wet.length ≠ 8192 ∧ d.fuse ≠ 0 ∧
    writeD d k b = { dry := d.dry, wet := d.wet ++ [⟨k, b⟩], fuse := (if d.fuse = -1 then -1 else d.fuse - 1), dead := d.dead } := by
  unfold writeE at h
  split at h
  · rename_i h0
    have hf : d.fuse ≠ 0 := by
      intro e
      unfold deedE at h
      rw [if_pos e] at h
      cases h
    have hD : writeD d k b = { dry := d.dry, wet := d.wet ++ [⟨k, b⟩], fuse := (if d.fuse = -1 then -1 else d.fuse - 1), dead := d.dead } := by
      unfold writeD deedD; rw [if_pos h0, if_neg hf]; rfl
    unfold writeE0 at h0
    split at h0
    · cases h0
    · rename_i h1
      have h1' := not_or.1 h1
      obtain ⟨h2, h3⟩ := h1'
      split at h0
      · cases h0
      · rename_i h4
        split at h0
        · cases h0
        · rename_i h5
          split at h0
          · cases h0
          · rename_i h6
            exact ⟨Decidable.not_not.1 h2, by omega, by simpa using h4, by simpa using h5, h6, hf, hD⟩
  · contradiction
theorem ok_wrote {d : Dk} {k : Int} {b : List Int} (h : checkOK d) (hb : b.length = 32) (hf : farD d k = false) (hw : d.wet.length ≠ 8192) (f : Int) (h1 : -1 ≤ f) (h2 : f ≤ 1073741824) (x : Bool) : checkOK ⟨d.dry, d.wet ++ [⟨k, b⟩], f, x⟩ := by
  obtain ⟨k1, k2, k3, k4, k5, k6, k7⟩ := h
  refine ⟨k1, k2, k3, by simp; omega, ?_, h1, h2⟩
  rw [List.any_append]
  have : oddD ⟨d.dry, d.wet ++ [⟨k, b⟩], f, x⟩ = oddD d := rfl
  rw [this, k5]
  simp [oddD, hf, hb]
theorem write_ok {d : Dk} {k : Int} {b : List Int} (h : writeE d k b = 0) : checkOK (writeD d k b) ∧ (writeD d k b).dead = false := by
  obtain ⟨h1, h2, h3, h4, h5, h6, h7⟩ := write_zero h
  rw [h7]
  refine ⟨ok_wrote h1 h2 h4 h5 _ ?_ ?_ _, h3⟩
  all_goals
    have := h1.2.2.2.2.2
    split <;> omega
theorem sees_wrote {d : Dk} {k : Int} {b : List Int} (h : writeE d k b = 0) (n : Nat) : sees (writeD d k b) n = if k = n then b else sees d n := by
  obtain ⟨_, _, _, _, _, _, h7⟩ := write_zero h
  rw [h7]
  unfold sees
  simp only [List.reverse_append, List.reverse_cons, List.reverse_nil, List.nil_append, List.cons_append, lastOf]
  split <;> rfl
theorem wrote_dry {d : Dk} {k : Int} {b : List Int} (h : writeE d k b = 0) : (writeD d k b).dry = d.dry := by rw [(write_zero h).2.2.2.2.2.2]
theorem write_can {d : Dk} {n : Nat} {b : List Int} (h : checkOK d) (hd : d.dead = false) (hb : b.length = 32) (hn : (n + 1) * 32 ≤ d.dry.length) (hw : d.wet.length < 8192) (hf : d.fuse ≠ 0) : writeE d n b = 0 := by
  have h0 : writeE0 d n b.length = 0 := by
    unfold writeE0
    rw [if_neg (by simp [h, hb]), if_neg (by simp [hd]), if_neg (by rw [far_nat hn]; decide), if_neg (by omega)]
  unfold writeE deedE
  rw [if_pos h0, if_neg hf]
/-! ### flushes, crashes -/
theorem flushed_sec {d : Dk} (h : flushE d = 0) {n : Nat} (hn : (n + 1) * 32 ≤ d.dry.length) : sec (flushD d).dry n = sees d n ∧ (flushD d).dry.length = d.dry.length := by
  obtain ⟨h1, h2, h3, h4⟩ := flush_zero h
  rw [h4]
  refine ⟨?_, settled_length h1 _ (fun _ => Nat.le_refl _)⟩
  show sec (settleAt (fun _ => 32) 0 d.wet d.dry) n = _
  rw [sec_settle _ _ _ _ _ (fun x hx => placed_of_ok h1 x hx), settleS_full _ _ _ (fun _ _ _ => rfl) (placed_len h1) (sec_length hn)]
  rfl
theorem sees_flushed {d : Dk} (h : flushE d = 0) {n : Nat} (hn : (n + 1) * 32 ≤ d.dry.length) : sees (flushD d) n = sees d n := by
  have e := (flush_ok h).2.2
  unfold sees at *
  rw [e]
  exact (flushed_sec h hn).1
theorem flush_can {d : Dk} (h : checkOK d) (hd : d.dead = false) (hf : d.fuse ≠ 0) : flushE d = 0 := by
  unfold flushE deedE; rw [if_pos (alive_of_ok h hd), if_neg hf]
theorem crashed_length {d : Dk} (h : checkOK d) (keep : List Int) : (crashD d keep).dry.length = d.dry.length := by
  rw [crash_ok h]; exact settled_length h _ (keepN_le keep)
theorem crashed_sec {d : Dk} (h : checkOK d) (keep : List Int) (n : Nat) : sec (crashD d keep).dry n = settleS (keepN keep) 0 d.wet n (sec d.dry n) := by
  rw [crash_ok h]
  exact sec_settle _ _ _ _ _ (fun x hx => placed_of_ok h x hx)
theorem check_zero {d : Dk} : checkE d = 0 ↔ checkOK d := by unfold checkE; split <;> simp_all
end Go.Proofs.Ytnmgiiaejpaeeaa
