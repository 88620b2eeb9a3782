/- Contracts and plain laws that the laws' proofs use, laid together (part 4). -/
import Derived.Test.YtnmgiiaejpaeeaaG3
import Derived.Test.YtnmgiiaejpaeeaaStampRef3
/- Plain laws of disks, sector by sector. -/
namespace Go.Proofs.Ytnmgiiaejpaeeaa
set_option linter.unusedVariables false
set_option linter.unusedSimpArgs false
open Go.RowKit
/-- A sector of what is kept. -/
def sec (b : List Int) (k : Nat) : List Int := (b.take (k * 32 + 32)).drop (k * 32)
theorem sec_get (b : List Int) (k i : Nat) : (sec b k)[i]? = if i < 32 then b[k * 32 + i]? else none := by
  unfold sec
  rw [List.getElem?_drop, List.getElem?_take]
  by_cases h : i < 32
  · rw [if_pos (by omega), if_pos h]
  · rw [if_neg (by omega), if_neg h]
theorem sec_length {b : List Int} {k : Nat} (h : (k + 1) * 32 ≤ b.length) : (sec b k).length = 32 := by
  unfold sec; simp; omega
theorem splice_get (b xs : List Int) (o i : Nat) (h : o + xs.length ≤ b.length) : (splice b o xs)[i]? = if i < o then b[i]? else if i < o + xs.length then xs[i - o]? else b[i]? := by
  unfold splice
  by_cases h1 : i < o
  · rw [if_pos h1, List.getElem?_append_left (by simp; omega), List.getElem?_take_of_lt h1]
  · rw [if_neg h1, List.getElem?_append_right (by simp; omega)]
    have e : (b.take o).length = o := by simp; omega
    rw [e]
    by_cases h2 : i < o + xs.length
    · rw [if_pos h2, List.getElem?_append_left (by omega)]
    · rw [if_neg h2, List.getElem?_append_right (by omega), List.getElem?_drop]
      congr 1; omega
theorem sec_splice_same {b xs : List Int} {k : Nat} (h : (k + 1) * 32 ≤ b.length) (hx : xs.length ≤ 32) : sec (splice b (k * 32) xs) k = xs ++ (sec b k).drop xs.length := by
  apply List.ext_getElem?
  intro i
  rw [sec_get, splice_get _ _ _ _ (by omega)]
  by_cases h1 : i < xs.length
  · rw [if_pos (by omega), if_neg (by omega), if_pos (by omega), List.getElem?_append_left h1]
    congr 1; omega
  · rw [List.getElem?_append_right (by omega), List.getElem?_drop, sec_get, show xs.length + (i - xs.length) = i by omega]
    by_cases h2 : i < 32
    · rw [if_pos h2, if_pos h2, if_neg (by omega), if_neg (by omega)]
    · rw [if_neg h2, if_neg h2]
theorem sec_splice_other {b xs : List Int} {k j : Nat} (h : (j + 1) * 32 ≤ b.length) (hx : xs.length ≤ 32) (hk : j ≠ k) : sec (splice b (j * 32) xs) k = sec b k := by
  apply List.ext_getElem?
  intro i
  rw [sec_get, sec_get]
  by_cases h2 : i < 32
  · rw [if_pos h2, if_pos h2, splice_get _ _ _ _ (by omega)]
    rcases Nat.lt_or_gt_of_ne hk with h3 | h3
    · rw [if_neg (by omega), if_neg (by omega)]
    · rw [if_pos (by omega)]
  · rw [if_neg h2, if_neg h2]
/-- What settling does to a sector. -/
def settleS (many : Nat → Nat) : Nat → List Wr → Nat → List Int → List Int
  | _, [], _, s => s
  | i, x :: l, k, s => settleS many (i + 1) l k (if x.pos = (k : Int) then x.b.take (many i) ++ s.drop (x.b.take (many i)).length else s)
theorem sec_settle (many : Nat → Nat) (k : Nat) : ∀ (l : List Wr) (i : Nat) (dry : List Int), (∀ x ∈ l, 0 ≤ x.pos ∧ (x.pos.toNat + 1) * 32 ≤ dry.length ∧ x.b.length = 32) → sec (settleAt many i l dry) k = settleS many i l k (sec dry k)
  | [], _, _, _ => rfl
  | x :: l, i, dry, h => by
    obtain ⟨h1, h2, h3⟩ := h x (by simp)
    have hl : (x.b.take (many i)).length ≤ 32 := by simp; omega
    have hsp : (splice dry (x.pos.toNat * 32) (x.b.take (many i))).length = dry.length := length_splice _ _ _ (by omega)
    show sec (settleAt many (i + 1) l (splice dry (x.pos.toNat * 32) (x.b.take (many i)))) k = settleS many (i + 1) l k _
    rw [sec_settle many k l (i + 1) _ (fun y hy => by rw [hsp]; exact h y (by simp [hy]))]
    congr 1
    by_cases hk : x.pos = (k : Int)
    · obtain rfl : x.pos.toNat = k := by omega
      rw [if_pos hk, sec_splice_same h2 hl]
    · rw [if_neg hk, sec_splice_other h2 hl (by omega)]
theorem lastOf_push (k : Int) : ∀ (l : List Wr) (x : Wr), lastOf k (l ++ [x]) = (lastOf k l).or (if x.pos = k then some x.b else none)
  | [], x => by simp [lastOf]
  | y :: l, x => by
    simp only [List.cons_append, lastOf]
    split
    · rfl
    · exact lastOf_push k l x
theorem settleS_full {many : Nat → Nat} {k : Nat} : ∀ (l : List Wr) (i : Nat) (s : List Int), (∀ j, i ≤ j → j < i + l.length → many j = 32) → (∀ x ∈ l, x.b.length = 32) → s.length = 32 → settleS many i l k s = (lastOf k l.reverse).getD s
  | [], _, _, _, _, _ => rfl
  | x :: l, i, s, hm, hl, hs => by
    show settleS many (i + 1) l k _ = _
    have h1 := hl x (by simp)
    have h2 := hm i (Nat.le_refl _) (by simp)
    rw [List.reverse_cons, lastOf_push]
    by_cases hk : x.pos = (k : Int)
    · rw [if_pos hk, if_pos hk, h2, List.take_of_length_le (by omega), List.drop_of_length_le (by omega), List.append_nil]
      rw [settleS_full l (i + 1) _ (fun j h3 h4 => hm j (by omega) (by simp; omega)) (fun y hy => hl y (by simp [hy])) h1]
      cases lastOf (k : Int) l.reverse <;> rfl
    · rw [if_neg hk, if_neg hk]
      rw [settleS_full l (i + 1) _ (fun j h3 h4 => hm j (by omega) (by simp; omega)) (fun y hy => hl y (by simp [hy])) hs]
      cases lastOf (k : Int) l.reverse <;> rfl
theorem settleS_append (many : Nat → Nat) (k : Nat) : ∀ (l r : List Wr) (i : Nat) (s : List Int), settleS many i (l ++ r) k s = settleS many (i + l.length) r k (settleS many i l k s)
  | [], r, i, s => by simp [settleS]
  | x :: l, r, i, s => by
    show settleS many (i + 1) (l ++ r) k _ = settleS many (i + (l.length + 1)) r k (settleS many (i + 1) l k _)
    rw [settleS_append many k l r (i + 1), show i + 1 + l.length = i + (l.length + 1) by omega]
theorem settleS_none {many : Nat → Nat} {k : Nat} : ∀ (l : List Wr) (i : Nat) (s : List Int), (∀ x ∈ l, x.pos ≠ (k : Int)) → settleS many i l k s = s
  | [], _, _, _ => rfl
  | x :: l, i, s, h => by
    show settleS many (i + 1) l k _ = _
    rw [if_neg (h x (by simp))]
    exact settleS_none l (i + 1) s fun y hy => h y (by simp [hy])
theorem settleS_zero {many : Nat → Nat} {k : Nat} : ∀ (l : List Wr) (i : Nat) (s : List Int), (∀ j, i ≤ j → j < i + l.length → many j = 0) → settleS many i l k s = s
  | [], _, _, _ => rfl
  | x :: l, i, s, h => by
    show settleS many (i + 1) l k _ = _
    rw [h i (Nat.le_refl _) (by simp)]
    have e : (if x.pos = (k : Int) then x.b.take 0 ++ s.drop (x.b.take 0).length else s) = s := by simp
    rw [e]
    exact settleS_zero l (i + 1) s fun j h3 h4 => h j (by omega) (by simp; omega)
theorem settleAt_congr {many many' : Nat → Nat} : ∀ (l : List Wr) (i : Nat) (dry : List Int), (∀ j, i ≤ j → j < i + l.length → many j = many' j) → settleAt many i l dry = settleAt many' i l dry
  | [], _, _, _ => rfl
  | x :: l, i, dry, h => by
    show settleAt many (i + 1) l _ = settleAt many' (i + 1) l _
    rw [h i (Nat.le_refl _) (by simp)]
    exact settleAt_congr l (i + 1) _ fun j h3 h4 => h j (by omega) (by simp; omega)
theorem settleAt_zero : ∀ (l : List Wr) (i : Nat) (dry : List Int), settleAt (fun _ => 0) i l dry = dry
  | [], _, _ => rfl
  | x :: l, i, dry => by
    show settleAt (fun _ => 0) (i + 1) l _ = dry
    rw [show splice dry (x.pos.toNat * 32) (x.b.take 0) = dry by simp [splice]]
    exact settleAt_zero l (i + 1) dry
/-! ### reads -/
theorem far_no {d : Dk} {k : Int} (h : farD d k = false) : ∃ n : Nat, k = n ∧ (n + 1) * 32 ≤ d.dry.length := by
  unfold farD at h
  simp only [decide_eq_false_iff_not] at h
  exact ⟨k.toNat, by omega, by omega⟩
theorem far_nat {d : Dk} {n : Nat} (h : (n + 1) * 32 ≤ d.dry.length) : farD d n = false := by
  unfold farD
  simp only [decide_eq_false_iff_not]
  omega
theorem read_zero {d : Dk} {k : Int} (h : readE d k = 0) : checkOK d ∧ d.dead = false ∧ ∃ n : Nat, k = n ∧ (n + 1) * 32 ≤ d.dry.length ∧ readB d k = (lastOf n d.wet.reverse).getD (sec d.dry n) := by
  have hB : readB d k = (lastOf k d.wet.reverse).getD ((d.dry.take (k.toNat * 32 + 32)).drop (k.toNat * 32)) := by unfold readB; rw [if_neg (by rw [h]; decide)]
  unfold readE at h
  split at h
  · contradiction
  · rename_i ha
    obtain ⟨h1, h2⟩ := alive_zero (Decidable.not_not.1 ha)
    split at h
    · contradiction
    · rename_i hf
      obtain ⟨n, rfl, hn⟩ := far_no (Bool.eq_false_iff.2 hf)
      refine ⟨h1, h2, n, rfl, hn, ?_⟩
      rw [hB]; rfl
theorem read_ok {d : Dk} {n : Nat} (h : checkOK d) (hd : d.dead = false) (hn : (n + 1) * 32 ≤ d.dry.length) : readE d n = 0 ∧ readB d n = (lastOf n d.wet.reverse).getD (sec d.dry n) := by
  have he : readE d n = 0 := by unfold readE; rw [if_neg (by rw [alive_of_ok h hd]; decide), if_neg (by rw [far_nat hn]; decide)]
  refine ⟨he, ?_⟩
  unfold readB; rw [if_neg (by rw [he]; decide)]; rfl
theorem placed_len {d : Dk} (h : checkOK d) : ∀ x ∈ d.wet, x.b.length = 32 := fun x hx => (placed_of_ok h x hx).2.2
/-- What a sector reads as. -/
def sees (d : Dk) (n : Nat) : List Int := (lastOf n d.wet.reverse).getD (sec d.dry n)
theorem sees_length {d : Dk} (h : checkOK d) {n : Nat} (hn : (n + 1) * 32 ≤ d.dry.length) : (sees d n).length = 32 := by
  unfold sees
  cases e : lastOf (n : Int) d.wet.reverse with
  | none => exact sec_length hn
  | some b =>
    obtain ⟨x, hx, rfl⟩ := lastOf_mem e
    exact placed_len h x (by simpa using hx)
/-! ### writes -/
theorem write_zero {d : Dk} {k : Int} {b : List Int} (h : writeE d k b = 0) : checkOK d ∧ b.length = 32 ∧ d.dead = false ∧ farD d k = false ∧ d.wet.length ≠ 8192 ∧ d.fuse ≠ 0 ∧
    writeD d k b = { dry := d.dry, wet := d.wet ++ [⟨k, b⟩], fuse := (if d.fuse = -1 then -1 else d.fuse - 1), dead := d.dead } := by
  unfold writeE at h
  split at h
  · rename_i h0
    have hf : d.fuse ≠ 0 := by
      intro e
      unfold deedE at h
      rw [if_pos e] at h
      cases h
    have hD : writeD d k b = { dry := d.dry, wet := d.wet ++ [⟨k, b⟩], fuse := (if d.fuse = -1 then -1 else d.fuse - 1), dead := d.dead } := by
      unfold writeD deedD; rw [if_pos h0, if_neg hf]; rfl
    unfold writeE0 at h0
    split at h0
    · cases h0
    · rename_i h1
      have h1' := not_or.1 h1
      obtain ⟨h2, h3⟩ := h1'
      split at h0
      · cases h0
      · rename_i h4
        split at h0
        · cases h0
        · rename_i h5
          split at h0
          · cases h0
          · rename_i h6
            exact ⟨Decidable.not_not.1 h2, by omega, by simpa using h4, by simpa using h5, h6, hf, hD⟩
  · contradiction
theorem ok_wrote {d : Dk} {k : Int} {b : List Int} (h : checkOK d) (hb : b.length = 32) (hf : farD d k = false) (hw : d.wet.length ≠ 8192) (f : Int) (h1 : -1 ≤ f) (h2 : f ≤ 1073741824) (x : Bool) : checkOK ⟨d.dry, d.wet ++ [⟨k, b⟩], f, x⟩ := by
  obtain ⟨k1, k2, k3, k4, k5, k6, k7⟩ := h
  refine ⟨k1, k2, k3, by simp; omega, ?_, h1, h2⟩
  rw [List.any_append]
  have : oddD ⟨d.dry, d.wet ++ [⟨k, b⟩], f, x⟩ = oddD d := rfl
  rw [this, k5]
  simp [oddD, hf, hb]
theorem write_ok {d : Dk} {k : Int} {b : List Int} (h : writeE d k b = 0) : checkOK (writeD d k b) ∧ (writeD d k b).dead = false := by
  obtain ⟨h1, h2, h3, h4, h5, h6, h7⟩ := write_zero h
  rw [h7]
  refine ⟨ok_wrote h1 h2 h4 h5 _ ?_ ?_ _, h3⟩
  all_goals
    have := h1.2.2.2.2.2
    split <;> omega
theorem sees_wrote {d : Dk} {k : Int} {b : List Int} (h : writeE d k b = 0) (n : Nat) : sees (writeD d k b) n = if k = n then b else sees d n := by
  obtain ⟨_, _, _, _, _, _, h7⟩ := write_zero h
  rw [h7]
  unfold sees
  simp only [List.reverse_append, List.reverse_cons, List.reverse_nil, List.nil_append, List.cons_append, lastOf]
  split <;> rfl
theorem wrote_dry {d : Dk} {k : Int} {b : List Int} (h : writeE d k b = 0) : (writeD d k b).dry = d.dry := by rw [(write_zero h).2.2.2.2.2.2]
theorem write_can {d : Dk} {n : Nat} {b : List Int} (h : checkOK d) (hd : d.dead = false) (hb : b.length = 32) (hn : (n + 1) * 32 ≤ d.dry.length) (hw : d.wet.length < 8192) (hf : d.fuse ≠ 0) : writeE d n b = 0 := by
  have h0 : writeE0 d n b.length = 0 := by
    unfold writeE0
    rw [if_neg (by simp [h, hb]), if_neg (by simp [hd]), if_neg (by rw [far_nat hn]; decide), if_neg (by omega)]
  unfold writeE deedE
  rw [if_pos h0, if_neg hf]
/-! ### flushes, crashes -/
theorem flushed_sec {d : Dk} (h : flushE d = 0) {n : Nat} (hn : (n + 1) * 32 ≤ d.dry.length) : sec (flushD d).dry n = sees d n ∧ (flushD d).dry.length = d.dry.length := by
  obtain ⟨h1, h2, h3, h4⟩ := flush_zero h
  rw [h4]
  refine ⟨?_, settled_length h1 _ (fun _ => Nat.le_refl _)⟩
  show sec (settleAt (fun _ => 32) 0 d.wet d.dry) n = _
  rw [sec_settle _ _ _ _ _ (fun x hx => placed_of_ok h1 x hx), settleS_full _ _ _ (fun _ _ _ => rfl) (placed_len h1) (sec_length hn)]
  rfl
theorem sees_flushed {d : Dk} (h : flushE d = 0) {n : Nat} (hn : (n + 1) * 32 ≤ d.dry.length) : sees (flushD d) n = sees d n := by
  have e := (flush_ok h).2.2
  unfold sees at *
  rw [e]
  exact (flushed_sec h hn).1
theorem flush_can {d : Dk} (h : checkOK d) (hd : d.dead = false) (hf : d.fuse ≠ 0) : flushE d = 0 := by
  unfold flushE deedE; rw [if_pos (alive_of_ok h hd), if_neg hf]
theorem crashed_length {d : Dk} (h : checkOK d) (keep : List Int) : (crashD d keep).dry.length = d.dry.length := by
  rw [crash_ok h]; exact settled_length h _ (keepN_le keep)
theorem crashed_sec {d : Dk} (h : checkOK d) (keep : List Int) (n : Nat) : sec (crashD d keep).dry n = settleS (keepN keep) 0 d.wet n (sec d.dry n) := by
  rw [crash_ok h]
  exact sec_settle _ _ _ _ _ (fun x hx => placed_of_ok h x hx)
theorem check_zero {d : Dk} : checkE d = 0 ↔ checkOK d := by unfold checkE; split <;> simp_all
end Go.Proofs.Ytnmgiiaejpaeeaa
/- Journals: how one lies in cells; contracts of Check, Open, Need of package journal and of its reference. -/
namespace Go.Proofs.Ytnmgiiaejpaeeaa
set_option linter.unusedVariables false
set_option linter.unusedSimpArgs false
open Go.RowKit Go.Shelf
structure Lg where
  base : Int
  size : Int
  gen : Int
  pos : Int
  n : Int
def lgV (g : Lg) : List Value := [.int .i64 g.base, .int .i64 g.size, .int .i64 g.gen, .int .i64 g.pos, .int .i64 g.n]
def lg0 : Lg := ⟨0, 0, 0, 0, 0⟩
def lgOK (g : Lg) : Prop := 0 ≤ g.base ∧ g.base < 8192 ∧ 1 ≤ g.size ∧ g.size ≤ 4096 ∧ 1 ≤ g.gen ∧ g.gen ≤ 549755813888 ∧ 0 ≤ g.pos ∧ g.pos ≤ g.size ∧ 0 ≤ g.n ∧ g.n ≤ 262144
instance (g : Lg) : Decidable (lgOK g) := by unfold lgOK; infer_instance
def lcheckE (g : Lg) : Int := if lgOK g then 0 else 1
theorem lcheck0 {g : Lg} (h : lgOK g) : Value.int .i64 0 = .int .i64 (lcheckE g) := by unfold lcheckE; rw [if_pos h]
theorem lcheck1 {g : Lg} (h : ¬ lgOK g) : Value.int .i64 1 = .int .i64 (lcheckE g) := by unfold lcheckE; rw [if_neg h]
def lopenG (b s g : Int) : Lg := if lgOK ⟨b, s, g, 0, 0⟩ then ⟨b, s, g, 0, 0⟩ else lg0
def needN (n : Nat) : Int := if 65536 < n then 0 else max (((n + 10) / 11 : Nat) : Int) 1
def needE (n : Nat) : Int := if 65536 < n then 3 else 0
theorem lgRow : ∃ d, Try.prog.underlying 70 = some d ∧ d.isRow = true ∧ (Try.prog.info? 70).map (·.size) = some 5 := ⟨_, Try.underlying70, rfl, by kernel_rfl⟩
set_option maxRecDepth 100000 in
set_option maxHeartbeats 4000000 in
theorem jcheck_c (m : Mem) (w : World) (hm : m.In w) (g : Lg) :
    Calls Try.prog 63 #[.agg (lgV g).toArray] w (Ret w m fun v _ => v = .int .i64 (lcheckE g)) := by
  have hS := St.start hm
  obtain ⟨b, s, gg, p, n⟩ := g
  simp only [lgV]
  go_enter Try.func63, Try.ntmps63
  go_wp2_with (first
    | ((with_reducible refine' Wl.out ?_; apply wl_box (ty := 70) (y := (.tmp 0)) hS); (· (first | (go_simp; done) | (go_simp; with_reducible rfl))); (· exact rfl); clear hS; intro w1 b1 hS)
    | ((with_reducible refine' Wl.out ?_; apply wl_load hS); (· (first | exact Try.underlying2 | exact Try.underlying3)); (· exact rfl); (· exact rfl); (· (first | (apply Find.box; (· (repeat constructor)); rfl) | exact Find.mem (by assumption) | (apply Find.row; (· (repeat constructor)); assumption))))
    | ((with_reducible refine' Wl.out ?_; apply wg_load hS); (· (first | exact Try.underlying2 | exact Try.underlying3)); (· exact rfl); (· (first | rfl | (go_simp; done))); (· exact rfl); (· (first | (apply Find.box; (· (repeat constructor)); rfl) | exact Find.mem (by assumption) | (apply Find.row; (· (repeat constructor)); assumption))))
    | ((with_reducible refine' Wl.out ?_); (with_reducible refine' wg_case ?_ ?_) <;> (intro hgW; (try (have hg2 := hgW; simp [go_sem] at hg2)); (first | (exfalso; assumption) | ((with_reducible refine' Wl.out ?_; apply wl_unwanted); (· exact hgW)) | ((with_reducible refine' Wl.out ?_; apply wg_load hS); (· (first | exact Try.underlying2 | exact Try.underlying3)); (· exact rfl); (· exact hgW); (· exact rfl); (· (first | (apply Find.box; (· (repeat constructor)); rfl) | exact Find.mem (by assumption) | (apply Find.row; (· (repeat constructor)); assumption))))); clear hgW)))
  all_goals
    go_ret
    first
    | exact ⟨_, m, rfl, lcheck0 (by simp only [lgOK]; omega), hS.done⟩
    | exact ⟨_, m, rfl, lcheck1 (by simp only [lgOK]; omega), hS.done⟩
set_option maxRecDepth 100000 in
set_option maxHeartbeats 4000000 in
theorem rjcheck_c (m : Mem) (w : World) (hm : m.In w) (g : Lg) :
    Calls Try.prog 64 #[.agg (lgV g).toArray] w (Ret w m fun v _ => v = .int .i64 (lcheckE g)) := by
  have hS := St.start hm
  obtain ⟨b, s, gg, p, n⟩ := g
  simp only [lgV]
  go_enter Try.func64, Try.ntmps64
  go_wp2_with (first
    | ((with_reducible refine' Wl.out ?_; apply wl_box (ty := 70) (y := (.tmp 0)) hS); (· (first | (go_simp; done) | (go_simp; with_reducible rfl))); (· exact rfl); clear hS; intro w1 b1 hS)
    | ((with_reducible refine' Wl.out ?_; apply wl_load hS); (· (first | exact Try.underlying2 | exact Try.underlying3)); (· exact rfl); (· exact rfl); (· (first | (apply Find.box; (· (repeat constructor)); rfl) | exact Find.mem (by assumption) | (apply Find.row; (· (repeat constructor)); assumption))))
    | ((with_reducible refine' Wl.out ?_; apply wg_load hS); (· (first | exact Try.underlying2 | exact Try.underlying3)); (· exact rfl); (· (first | rfl | (go_simp; done))); (· exact rfl); (· (first | (apply Find.box; (· (repeat constructor)); rfl) | exact Find.mem (by assumption) | (apply Find.row; (· (repeat constructor)); assumption))))
    | ((with_reducible refine' Wl.out ?_); (with_reducible refine' wg_case ?_ ?_) <;> (intro hgW; (try (have hg2 := hgW; simp [go_sem] at hg2)); (first | (exfalso; assumption) | ((with_reducible refine' Wl.out ?_; apply wl_unwanted); (· exact hgW)) | ((with_reducible refine' Wl.out ?_; apply wg_load hS); (· (first | exact Try.underlying2 | exact Try.underlying3)); (· exact rfl); (· exact hgW); (· exact rfl); (· (first | (apply Find.box; (· (repeat constructor)); rfl) | exact Find.mem (by assumption) | (apply Find.row; (· (repeat constructor)); assumption))))); clear hgW)))
  all_goals
    go_ret
    first
    | exact ⟨_, m, rfl, lcheck0 (by simp only [lgOK]; omega), hS.done⟩
    | exact ⟨_, m, rfl, lcheck1 (by simp only [lgOK]; omega), hS.done⟩
/-- A journal, and an error, are handed back. -/
def RetLE (w : World) (m : Mem) (g : Lg) (e : Int) : Ending → World → Prop := Ret w m fun v _ => v = .tuple #[.agg (lgV g).toArray, .int .i64 e]
theorem lopen_ok {b s g : Int} (h : lgOK ⟨b, s, g, 0, 0⟩) : lopenG b s g = ⟨b, s, g, 0, 0⟩ := if_pos h
theorem lopen_no {b s g : Int} (h : ¬ lgOK ⟨b, s, g, 0, 0⟩) : lopenG b s g = lg0 := if_neg h
set_option maxRecDepth 100000 in
set_option maxHeartbeats 4000000 in
theorem jopen_c (m : Mem) (w : World) (hm : m.In w) (b s g : Int) :
    Calls Try.prog 60 #[.int .i64 b, .int .i64 s, .int .i64 g] w (RetLE w m (lopenG b s g) (lcheckE ⟨b, s, g, 0, 0⟩)) := by
  have hS := St.start hm
  have ways : (lgOK ⟨b, s, g, 0, 0⟩ ∧ lcheckE ⟨b, s, g, 0, 0⟩ = 0) ∨ (¬ lgOK ⟨b, s, g, 0, 0⟩ ∧ lcheckE ⟨b, s, g, 0, 0⟩ = 1) := by
    unfold lcheckE; by_cases h : lgOK ⟨b, s, g, 0, 0⟩ <;> simp [h]
  rcases ways with ⟨h, hE⟩ | ⟨h, hE⟩
  all_goals
    have H := Lib.hid h
    have HE := Lib.hid hE
    clear h hE
    go_enter Try.func60, Try.ntmps60
    go_wp2_with (first
    | ((with_reducible refine' Wl.out ?_; apply wl_alloc (ty := 70) (dst := some 6) hS (.agg #[.int .i64 0, .int .i64 0, .int .i64 0, .int .i64 0, .int .i64 0]) [.int .i64 0, .int .i64 0, .int .i64 0, .int .i64 0, .int .i64 0]); (· kernel_rfl); (· rfl); clear hS; intro w6 b6 hS)
    | ((with_reducible refine' Wl.out ?_; apply wl_alloc (ty := 70) (dst := some 8) hS (.agg #[.int .i64 0, .int .i64 0, .int .i64 0, .int .i64 0, .int .i64 0]) [.int .i64 0, .int .i64 0, .int .i64 0, .int .i64 0, .int .i64 0]); (· kernel_rfl); (· rfl); clear hS; intro w8 b8 hS)
    | ((with_reducible refine' Wl.out ?_; apply wl_loads hS); (· (first | exact rowT70)); (· exact rfl); (· (first | (apply Finds.box; (· (repeat constructor)); (· (repeat constructor)); done) | (refine Finds.mem2 (by assumption) ?_; first | rfl | assumption | (simp; done)) | (apply Finds.row; (· (repeat constructor)); (· assumption); (· rfl)))))
    | ((with_reducible refine' Wl.out ?_; apply wg_loads hS); (· (first | exact rowT70)); (· (first | rfl | (go_simp; done))); (· exact rfl); (· (first | (apply Finds.box; (· (repeat constructor)); (· (repeat constructor)); done) | (refine Finds.mem2 (by assumption) ?_; first | rfl | assumption | (simp; done)) | (apply Finds.row; (· (repeat constructor)); (· assumption); (· rfl)))))
    | ((with_reducible refine' Wl.out ?_; apply wl_stores hS); (· (first | exact rowT70)); (· exact rfl); (· exact rfl); (· exact rfl); (· (first | assumption | (simp [Value.oneCell']; done))); (· (repeat constructor)); (· (repeat constructor)); (· (repeat constructor)); clear hS; intro ws hS)
      | (go_at_call 63; refine (jcheck_c _ _ hS.inw ⟨b, s, g, 0, 0⟩).mono ?_; rintro e' w15 ⟨_, m15, rfl, rfl, hk⟩; rw [HE.out]; replace hS := hS.call hk; clear hk))
    refine ret_cell_tmp (n := 5) rfl rfl hS (by (repeat constructor)) (by rfl) lgRow rfl ?_
    rw [HE.out]
    first
    | (rw [lopen_ok H.out]; exact ⟨_, m15, rfl, rfl, hS.done⟩)
    | (rw [lopen_no H.out]; exact ⟨_, m15, rfl, rfl, hS.done⟩)
set_option maxRecDepth 100000 in
set_option maxHeartbeats 4000000 in
theorem rjopen_c (m : Mem) (w : World) (hm : m.In w) (b s g : Int) :
    Calls Try.prog 61 #[.int .i64 b, .int .i64 s, .int .i64 g] w (RetLE w m (lopenG b s g) (lcheckE ⟨b, s, g, 0, 0⟩)) := by
  have hS := St.start hm
  have ways : (lgOK ⟨b, s, g, 0, 0⟩ ∧ lcheckE ⟨b, s, g, 0, 0⟩ = 0) ∨ (¬ lgOK ⟨b, s, g, 0, 0⟩ ∧ lcheckE ⟨b, s, g, 0, 0⟩ = 1) := by
    unfold lcheckE; by_cases h : lgOK ⟨b, s, g, 0, 0⟩ <;> simp [h]
  rcases ways with ⟨h, hE⟩ | ⟨h, hE⟩
  all_goals
    have H := Lib.hid h
    have HE := Lib.hid hE
    clear h hE
    go_enter Try.func61, Try.ntmps61
    go_wp2_with (first
    | ((with_reducible refine' Wl.out ?_; apply wl_alloc (ty := 70) (dst := some 6) hS (.agg #[.int .i64 0, .int .i64 0, .int .i64 0, .int .i64 0, .int .i64 0]) [.int .i64 0, .int .i64 0, .int .i64 0, .int .i64 0, .int .i64 0]); (· kernel_rfl); (· rfl); clear hS; intro w6 b6 hS)
    | ((with_reducible refine' Wl.out ?_; apply wl_alloc (ty := 70) (dst := some 8) hS (.agg #[.int .i64 0, .int .i64 0, .int .i64 0, .int .i64 0, .int .i64 0]) [.int .i64 0, .int .i64 0, .int .i64 0, .int .i64 0, .int .i64 0]); (· kernel_rfl); (· rfl); clear hS; intro w8 b8 hS)
    | ((with_reducible refine' Wl.out ?_; apply wl_loads hS); (· (first | exact rowT70)); (· exact rfl); (· (first | (apply Finds.box; (· (repeat constructor)); (· (repeat constructor)); done) | (refine Finds.mem2 (by assumption) ?_; first | rfl | assumption | (simp; done)) | (apply Finds.row; (· (repeat constructor)); (· assumption); (· rfl)))))
    | ((with_reducible refine' Wl.out ?_; apply wg_loads hS); (· (first | exact rowT70)); (· (first | rfl | (go_simp; done))); (· exact rfl); (· (first | (apply Finds.box; (· (repeat constructor)); (· (repeat constructor)); done) | (refine Finds.mem2 (by assumption) ?_; first | rfl | assumption | (simp; done)) | (apply Finds.row; (· (repeat constructor)); (· assumption); (· rfl)))))
    | ((with_reducible refine' Wl.out ?_; apply wl_stores hS); (· (first | exact rowT70)); (· exact rfl); (· exact rfl); (· exact rfl); (· (first | assumption | (simp [Value.oneCell']; done))); (· (repeat constructor)); (· (repeat constructor)); (· (repeat constructor)); clear hS; intro ws hS)
      | (go_at_call 64; refine (rjcheck_c _ _ hS.inw ⟨b, s, g, 0, 0⟩).mono ?_; rintro e' w15 ⟨_, m15, rfl, rfl, hk⟩; rw [HE.out]; replace hS := hS.call hk; clear hk))
    refine ret_cell_tmp (n := 5) rfl rfl hS (by (repeat constructor)) (by rfl) lgRow rfl ?_
    rw [HE.out]
    first
    | (rw [lopen_ok H.out]; exact ⟨_, m15, rfl, rfl, hS.done⟩)
    | (rw [lopen_no H.out]; exact ⟨_, m15, rfl, rfl, hS.done⟩)
theorem need_ok {n : Nat} (h : ¬ 65536 < n) : needN n = max (((n + 10) / 11 : Nat) : Int) 1 ∧ needE n = 0 := by
  unfold needN needE; rw [if_neg h, if_neg h]; exact ⟨rfl, rfl⟩
theorem need_no {n : Nat} (h : 65536 < n) : needN n = 0 ∧ needE n = 3 := by
  unfold needN needE; rw [if_pos h, if_pos h]; exact ⟨rfl, rfl⟩
set_option maxRecDepth 100000 in
set_option maxHeartbeats 4000000 in
theorem jneed_c (m : Mem) (w : World) (hm : m.In w) (p : Option Addr) (n c : Nat) (hn : n ≤ 140737488355328) :
    Calls Try.prog 58 #[.slice p n c] w (Ret w m fun v _ => v = .tuple #[.int .i64 (needN n), .int .i64 (needE n)]) := by
  have hS := St.start hm
  go_enter Try.func58, Try.ntmps58
  go_wp2_with fail
  · have hh : 65536 < n := by omega
    go_ret2
    exact ⟨_, m, rfl, by rw [(need_no hh).1, (need_no hh).2]; rfl, hS.done⟩
  · have hh : ¬ 65536 < n := by omega
    go_ret2
    refine ⟨_, m, rfl, ?_, hS.done⟩
    rw [(need_ok hh).1, (need_ok hh).2]
    simp
    rw [show ((n : Int) + 11 - 1) = n + 10 by omega]
set_option maxRecDepth 100000 in
set_option maxHeartbeats 4000000 in
theorem rjneed_c (m : Mem) (w : World) (hm : m.In w) (p : Option Addr) (n c : Nat) (hn : n ≤ 140737488355328) :
    Calls Try.prog 59 #[.slice p n c] w (Ret w m fun v _ => v = .tuple #[.int .i64 (needN n), .int .i64 (needE n)]) := by
  have hS := St.start hm
  go_enter Try.func59, Try.ntmps59
  go_wp2_with fail
  · have hh : 65536 < n := by omega
    go_ret2
    exact ⟨_, m, rfl, by rw [(need_no hh).1, (need_no hh).2]; rfl, hS.done⟩
  · have hh : ¬ 65536 < n := by omega
    go_ret2
    refine ⟨_, m, rfl, ?_, hS.done⟩
    rw [(need_ok hh).1, (need_ok hh).2]
    simp
/-! ### Letters -/
section
variable {P : Program} {f : FuncId} {args : Array Value} {w : World} {m : Mem}
theorem letII {x y : Int} (h : Calls P f args w (Ret w m fun v _ => v = .tuple #[.int .i64 x, .int .i64 y])) : Calls P f args w (Ret w m fun v _ => ∃ x' y', Hid (x' = x) ∧ Hid (y' = y) ∧ v = .tuple #[.int .i64 x', .int .i64 y']) :=
  h.mono fun e w' ⟨v, m', h1, h2, h3⟩ => ⟨v, m', h1, ⟨x, y, rfl, rfl, h2⟩, h3⟩
theorem letLE {g : Lg} {e : Int} (h : Calls P f args w (RetLE w m g e)) : Calls P f args w (Ret w m fun v _ => ∃ g' e', Hid (g' = g) ∧ Hid (e' = e) ∧ v = .tuple #[.agg ([.int .i64 g'.base, .int .i64 g'.size, .int .i64 g'.gen, .int .i64 g'.pos, .int .i64 g'.n] : List Value).toArray, .int .i64 e']) :=
  h.mono fun en w' ⟨v, m', h1, h2, h3⟩ => ⟨v, m', h1, ⟨g, e, rfl, rfl, h2⟩, h3⟩
end
theorem jcheck_v (m : Mem) (w : World) (hm : m.In w) (b s g p n : Int) :
    Calls Try.prog 63 #[.agg ([.int .i64 b, .int .i64 s, .int .i64 g, .int .i64 p, .int .i64 n] : List Value).toArray] w (Ret w m fun v _ => v = .int .i64 (lcheckE ⟨b, s, g, p, n⟩)) := jcheck_c m w hm ⟨b, s, g, p, n⟩
theorem rjcheck_v (m : Mem) (w : World) (hm : m.In w) (b s g p n : Int) :
    Calls Try.prog 64 #[.agg ([.int .i64 b, .int .i64 s, .int .i64 g, .int .i64 p, .int .i64 n] : List Value).toArray] w (Ret w m fun v _ => v = .int .i64 (lcheckE ⟨b, s, g, p, n⟩)) := rjcheck_c m w hm ⟨b, s, g, p, n⟩
theorem lcheck_zero {g : Lg} : lcheckE g = 0 ↔ lgOK g := by unfold lcheckE; split <;> simp_all
end Go.Proofs.Ytnmgiiaejpaeeaa
/- Journals: contracts of there, of package journal and of its reference. -/
namespace Go.Proofs.Ytnmgiiaejpaeeaa
set_option linter.unusedVariables false
set_option linter.unusedSimpArgs false
open Go.RowKit Go.Shelf
def thereB (d : Dk) (g : Lg) : Bool := decide (checkOK d ∧ lgOK g ∧ g.base + g.size ≤ (d.dry.length : Int) / 32)
theorem there_yes {d : Dk} {g : Lg} (h1 : checkOK d) (h2 : lgOK g) (h3 : g.base + g.size ≤ (d.dry.length : Int) / 32) : thereB d g = true := decide_eq_true ⟨h1, h2, h3⟩
theorem there_no {d : Dk} {g : Lg} (h : ¬ (checkOK d ∧ lgOK g ∧ g.base + g.size ≤ (d.dry.length : Int) / 32)) : thereB d g = false := decide_eq_false h
set_option maxRecDepth 100000 in
set_option maxHeartbeats 4000000 in
theorem there_c (m : Mem) (w : World) (hm : m.In w) (cs : List Value) (d : Dk) (h : dkL.rd m cs d) (b s g p n : Int) :
    Calls Try.prog 87 #[.agg cs.toArray, .agg ([.int .i64 b, .int .i64 s, .int .i64 g, .int .i64 p, .int .i64 n] : List Value).toArray] w (Ret w m fun v _ => v = .bool (thereB d ⟨b, s, g, p, n⟩)) := by
  obtain ⟨p0, c0, q0, a0, rfl, A0⟩ := dkL_cells h
  have hS := St.start hm
  have hl := (ok_big (d := d))
  clear h
  by_cases hd : checkOK d
  · have HD := Lib.hid hd
    have hlen : d.dry.length ≤ 262144 := hd.2.1
    have CE : Hid (checkE d = 0) := check_zero.2 hd
    clear hd
    by_cases hg : lgOK ⟨b, s, g, p, n⟩
    · have HG := Lib.hid hg
      have GE : Hid (lcheckE ⟨b, s, g, p, n⟩ = 0) := lcheck_zero.2 hg
      obtain ⟨g1, g2, g3, g4, _⟩ := hg
      simp only at g1 g2 g3 g4
      clear hl
      go_enter Try.func87, Try.ntmps87
      go_wp2_with (first
    | ((with_reducible refine' Wl.out ?_; apply wl_box (ty := 44) (y := (.tmp 0)) hS); (· (first | (go_simp; done) | (go_simp; with_reducible rfl))); (· exact rfl); clear hS; intro w2 b2 hS)
    | ((with_reducible refine' Wl.out ?_; apply wl_box (ty := 70) (y := (.tmp 1)) hS); (· (first | (go_simp; done) | (go_simp; with_reducible rfl))); (· exact rfl); clear hS; intro w3 b3 hS)
    | ((with_reducible refine' Wl.out ?_; apply wl_load hS); (· (first | exact Try.underlying3 | exact Try.underlying22)); (· exact rfl); (· exact rfl); (· (first | (apply Find.box; (· (repeat constructor)); rfl) | exact Find.mem (by assumption) | (apply Find.row; (· (repeat constructor)); assumption))))
    | ((with_reducible refine' Wl.out ?_; apply wg_load hS); (· (first | exact Try.underlying3 | exact Try.underlying22)); (· exact rfl); (· (first | rfl | (go_simp; done))); (· exact rfl); (· (first | (apply Find.box; (· (repeat constructor)); rfl) | exact Find.mem (by assumption) | (apply Find.row; (· (repeat constructor)); assumption))))
    | ((with_reducible refine' Wl.out ?_; apply wl_loads hS); (· (first | exact rowT44 | exact rowT70)); (· exact rfl); (· (first | (apply Finds.box; (· (repeat constructor)); (· (repeat constructor)); done) | (refine Finds.mem2 (by assumption) ?_; first | rfl | assumption | (simp; done)) | (apply Finds.row; (· (repeat constructor)); (· assumption); (· rfl)))))
    | ((with_reducible refine' Wl.out ?_; apply wg_loads hS); (· (first | exact rowT44 | exact rowT70)); (· (first | rfl | (go_simp; done))); (· exact rfl); (· (first | (apply Finds.box; (· (repeat constructor)); (· (repeat constructor)); done) | (refine Finds.mem2 (by assumption) ?_; first | rfl | assumption | (simp; done)) | (apply Finds.row; (· (repeat constructor)); (· assumption); (· rfl)))))
    | ((with_reducible refine' Wl.out ?_); (with_reducible refine' wg_case ?_ ?_) <;> (intro hgW; (try (have hg2 := hgW; simp [go_sem] at hg2)); (first | (exfalso; assumption) | ((with_reducible refine' Wl.out ?_; apply wl_unwanted); (· exact hgW)) | ((with_reducible refine' Wl.out ?_; apply wg_load hS); (· (first | exact Try.underlying3 | exact Try.underlying22)); (· exact rfl); (· exact hgW); (· exact rfl); (· (first | (apply Find.box; (· (repeat constructor)); rfl) | exact Find.mem (by assumption) | (apply Find.row; (· (repeat constructor)); assumption)))) | ((with_reducible refine' Wl.out ?_; apply wg_loads hS); (· (first | exact rowT44 | exact rowT70)); (· exact hgW); (· exact rfl); (· (first | (apply Finds.box; (· (repeat constructor)); (· (repeat constructor)); done) | (refine Finds.mem2 (by assumption) ?_; first | rfl | assumption | (simp; done)) | (apply Finds.row; (· (repeat constructor)); (· assumption); (· rfl)))))); clear hgW))
    | (go_at_call 40; (fail_if_success (clear Mk6)); refine (letInt (check_c _ _ hS.inw _ _ (by first | exact A0.out | exact dkL_dry A0.out | exact Lay.nil_rd _ _))).mono ?_; rintro e' w6 ⟨_, m6, rfl, ⟨E6, HE6, rfl⟩, hk⟩; replace hS := hS.call hk; (try replace A0 := Lib.hid (Lay.mono _ hk.le A0.out)); clear hk; replace HE6 := Lib.hid (HE6.out.trans CE.out); obtain rfl := HE6.out; have Mk6 := True.intro)
    | (go_at_call 63; (fail_if_success (clear Mk10)); refine (letInt (jcheck_v _ _ hS.inw _ _ _ _ _)).mono ?_; rintro e' w10 ⟨_, m10, rfl, ⟨E10, HE10, rfl⟩, hk⟩; replace hS := hS.call hk; (try replace A0 := Lib.hid (Lay.mono _ hk.le A0.out)); clear hk; replace HE10 := Lib.hid (HE10.out.trans GE.out); obtain rfl := HE10.out; have Mk10 := True.intro))
      all_goals
        go_ret
        refine ⟨_, _, rfl, ?_, hS.done⟩
        unfold thereB
        simp [HD.out, HG.out]
    · have GE : Hid (lcheckE ⟨b, s, g, p, n⟩ = 1) := if_neg hg
      have HG := Lib.hid hg
      clear hg hl
      go_enter Try.func87, Try.ntmps87
      go_wp2_with (first
    | ((with_reducible refine' Wl.out ?_; apply wl_box (ty := 44) (y := (.tmp 0)) hS); (· (first | (go_simp; done) | (go_simp; with_reducible rfl))); (· exact rfl); clear hS; intro w2 b2 hS)
    | ((with_reducible refine' Wl.out ?_; apply wl_box (ty := 70) (y := (.tmp 1)) hS); (· (first | (go_simp; done) | (go_simp; with_reducible rfl))); (· exact rfl); clear hS; intro w3 b3 hS)
    | ((with_reducible refine' Wl.out ?_; apply wl_load hS); (· (first | exact Try.underlying3 | exact Try.underlying22)); (· exact rfl); (· exact rfl); (· (first | (apply Find.box; (· (repeat constructor)); rfl) | exact Find.mem (by assumption) | (apply Find.row; (· (repeat constructor)); assumption))))
    | ((with_reducible refine' Wl.out ?_; apply wg_load hS); (· (first | exact Try.underlying3 | exact Try.underlying22)); (· exact rfl); (· (first | rfl | (go_simp; done))); (· exact rfl); (· (first | (apply Find.box; (· (repeat constructor)); rfl) | exact Find.mem (by assumption) | (apply Find.row; (· (repeat constructor)); assumption))))
    | ((with_reducible refine' Wl.out ?_; apply wl_loads hS); (· (first | exact rowT44 | exact rowT70)); (· exact rfl); (· (first | (apply Finds.box; (· (repeat constructor)); (· (repeat constructor)); done) | (refine Finds.mem2 (by assumption) ?_; first | rfl | assumption | (simp; done)) | (apply Finds.row; (· (repeat constructor)); (· assumption); (· rfl)))))
    | ((with_reducible refine' Wl.out ?_; apply wg_loads hS); (· (first | exact rowT44 | exact rowT70)); (· (first | rfl | (go_simp; done))); (· exact rfl); (· (first | (apply Finds.box; (· (repeat constructor)); (· (repeat constructor)); done) | (refine Finds.mem2 (by assumption) ?_; first | rfl | assumption | (simp; done)) | (apply Finds.row; (· (repeat constructor)); (· assumption); (· rfl)))))
    | ((with_reducible refine' Wl.out ?_); (with_reducible refine' wg_case ?_ ?_) <;> (intro hgW; (try (have hg2 := hgW; simp [go_sem] at hg2)); (first | (exfalso; assumption) | ((with_reducible refine' Wl.out ?_; apply wl_unwanted); (· exact hgW)) | ((with_reducible refine' Wl.out ?_; apply wg_load hS); (· (first | exact Try.underlying3 | exact Try.underlying22)); (· exact rfl); (· exact hgW); (· exact rfl); (· (first | (apply Find.box; (· (repeat constructor)); rfl) | exact Find.mem (by assumption) | (apply Find.row; (· (repeat constructor)); assumption)))) | ((with_reducible refine' Wl.out ?_; apply wg_loads hS); (· (first | exact rowT44 | exact rowT70)); (· exact hgW); (· exact rfl); (· (first | (apply Finds.box; (· (repeat constructor)); (· (repeat constructor)); done) | (refine Finds.mem2 (by assumption) ?_; first | rfl | assumption | (simp; done)) | (apply Finds.row; (· (repeat constructor)); (· assumption); (· rfl)))))); clear hgW))
    | (go_at_call 40; (fail_if_success (clear Mk6)); refine (letInt (check_c _ _ hS.inw _ _ (by first | exact A0.out | exact dkL_dry A0.out | exact Lay.nil_rd _ _))).mono ?_; rintro e' w6 ⟨_, m6, rfl, ⟨E6, HE6, rfl⟩, hk⟩; replace hS := hS.call hk; (try replace A0 := Lib.hid (Lay.mono _ hk.le A0.out)); clear hk; replace HE6 := Lib.hid (HE6.out.trans CE.out); obtain rfl := HE6.out; have Mk6 := True.intro)
    | (go_at_call 63; (fail_if_success (clear Mk10)); refine (letInt (jcheck_v _ _ hS.inw _ _ _ _ _)).mono ?_; rintro e' w10 ⟨_, m10, rfl, ⟨E10, HE10, rfl⟩, hk⟩; replace hS := hS.call hk; (try replace A0 := Lib.hid (Lay.mono _ hk.le A0.out)); clear hk; replace HE10 := Lib.hid (HE10.out.trans GE.out); obtain rfl := HE10.out; have Mk10 := True.intro))
      all_goals
        go_ret
        refine ⟨_, _, rfl, ?_, hS.done⟩
        rw [there_no (fun hh => HG.out hh.2.1)]; rfl
  · have CE : Hid (checkE d = 1) := if_neg hd
    have HD := Lib.hid hd
    clear hd hl
    go_enter Try.func87, Try.ntmps87
    go_wp2_with (first
    | ((with_reducible refine' Wl.out ?_; apply wl_box (ty := 44) (y := (.tmp 0)) hS); (· (first | (go_simp; done) | (go_simp; with_reducible rfl))); (· exact rfl); clear hS; intro w2 b2 hS)
    | ((with_reducible refine' Wl.out ?_; apply wl_box (ty := 70) (y := (.tmp 1)) hS); (· (first | (go_simp; done) | (go_simp; with_reducible rfl))); (· exact rfl); clear hS; intro w3 b3 hS)
    | ((with_reducible refine' Wl.out ?_; apply wl_load hS); (· (first | exact Try.underlying3 | exact Try.underlying22)); (· exact rfl); (· exact rfl); (· (first | (apply Find.box; (· (repeat constructor)); rfl) | exact Find.mem (by assumption) | (apply Find.row; (· (repeat constructor)); assumption))))
    | ((with_reducible refine' Wl.out ?_; apply wg_load hS); (· (first | exact Try.underlying3 | exact Try.underlying22)); (· exact rfl); (· (first | rfl | (go_simp; done))); (· exact rfl); (· (first | (apply Find.box; (· (repeat constructor)); rfl) | exact Find.mem (by assumption) | (apply Find.row; (· (repeat constructor)); assumption))))
    | ((with_reducible refine' Wl.out ?_; apply wl_loads hS); (· (first | exact rowT44 | exact rowT70)); (· exact rfl); (· (first | (apply Finds.box; (· (repeat constructor)); (· (repeat constructor)); done) | (refine Finds.mem2 (by assumption) ?_; first | rfl | assumption | (simp; done)) | (apply Finds.row; (· (repeat constructor)); (· assumption); (· rfl)))))
    | ((with_reducible refine' Wl.out ?_; apply wg_loads hS); (· (first | exact rowT44 | exact rowT70)); (· (first | rfl | (go_simp; done))); (· exact rfl); (· (first | (apply Finds.box; (· (repeat constructor)); (· (repeat constructor)); done) | (refine Finds.mem2 (by assumption) ?_; first | rfl | assumption | (simp; done)) | (apply Finds.row; (· (repeat constructor)); (· assumption); (· rfl)))))
    | ((with_reducible refine' Wl.out ?_); (with_reducible refine' wg_case ?_ ?_) <;> (intro hgW; (try (have hg2 := hgW; simp [go_sem] at hg2)); (first | (exfalso; assumption) | ((with_reducible refine' Wl.out ?_; apply wl_unwanted); (· exact hgW)) | ((with_reducible refine' Wl.out ?_; apply wg_load hS); (· (first | exact Try.underlying3 | exact Try.underlying22)); (· exact rfl); (· exact hgW); (· exact rfl); (· (first | (apply Find.box; (· (repeat constructor)); rfl) | exact Find.mem (by assumption) | (apply Find.row; (· (repeat constructor)); assumption)))) | ((with_reducible refine' Wl.out ?_; apply wg_loads hS); (· (first | exact rowT44 | exact rowT70)); (· exact hgW); (· exact rfl); (· (first | (apply Finds.box; (· (repeat constructor)); (· (repeat constructor)); done) | (refine Finds.mem2 (by assumption) ?_; first | rfl | assumption | (simp; done)) | (apply Finds.row; (· (repeat constructor)); (· assumption); (· rfl)))))); clear hgW))
    | (go_at_call 40; (fail_if_success (clear Mk6)); refine (letInt (check_c _ _ hS.inw _ _ (by first | exact A0.out | exact dkL_dry A0.out | exact Lay.nil_rd _ _))).mono ?_; rintro e' w6 ⟨_, m6, rfl, ⟨E6, HE6, rfl⟩, hk⟩; replace hS := hS.call hk; (try replace A0 := Lib.hid (Lay.mono _ hk.le A0.out)); clear hk; replace HE6 := Lib.hid (HE6.out.trans CE.out); obtain rfl := HE6.out; have Mk6 := True.intro)
    | (go_at_call 63; (fail_if_success (clear Mk10)); refine (letInt (jcheck_v _ _ hS.inw _ _ _ _ _)).mono ?_; rintro e' w10 ⟨_, m10, rfl, ⟨E10, HE10, rfl⟩, hk⟩; replace hS := hS.call hk; (try replace A0 := Lib.hid (Lay.mono _ hk.le A0.out)); clear hk; replace HE10 := Lib.hid (HE10.out.trans GE.out); obtain rfl := HE10.out; have Mk10 := True.intro))
    all_goals
      go_ret
      refine ⟨_, _, rfl, ?_, hS.done⟩
      rw [there_no (fun hh => HD.out hh.1)]; rfl
set_option maxRecDepth 100000 in
set_option maxHeartbeats 4000000 in
theorem rthere_c (m : Mem) (w : World) (hm : m.In w) (cs : List Value) (d : Dk) (h : dkL.rd m cs d) (b s g p n : Int) :
    Calls Try.prog 89 #[.agg cs.toArray, .agg ([.int .i64 b, .int .i64 s, .int .i64 g, .int .i64 p, .int .i64 n] : List Value).toArray] w (Ret w m fun v _ => v = .bool (thereB d ⟨b, s, g, p, n⟩)) := by
  obtain ⟨p0, c0, q0, a0, rfl, A0⟩ := dkL_cells h
  have hS := St.start hm
  have hl := (ok_big (d := d))
  clear h
  by_cases hd : checkOK d
  · have HD := Lib.hid hd
    have hlen : d.dry.length ≤ 262144 := hd.2.1
    have CE : Hid (checkE d = 0) := check_zero.2 hd
    clear hd
    by_cases hg : lgOK ⟨b, s, g, p, n⟩
    · have HG := Lib.hid hg
      have GE : Hid (lcheckE ⟨b, s, g, p, n⟩ = 0) := lcheck_zero.2 hg
      obtain ⟨g1, g2, g3, g4, _⟩ := hg
      simp only at g1 g2 g3 g4
      clear hl
      go_enter Try.func89, Try.ntmps89
      go_wp2_with (first
    | ((with_reducible refine' Wl.out ?_; apply wl_box (ty := 44) (y := (.tmp 0)) hS); (· (first | (go_simp; done) | (go_simp; with_reducible rfl))); (· exact rfl); clear hS; intro w2 b2 hS)
    | ((with_reducible refine' Wl.out ?_; apply wl_box (ty := 70) (y := (.tmp 1)) hS); (· (first | (go_simp; done) | (go_simp; with_reducible rfl))); (· exact rfl); clear hS; intro w3 b3 hS)
    | ((with_reducible refine' Wl.out ?_; apply wl_load hS); (· (first | exact Try.underlying3 | exact Try.underlying22)); (· exact rfl); (· exact rfl); (· (first | (apply Find.box; (· (repeat constructor)); rfl) | exact Find.mem (by assumption) | (apply Find.row; (· (repeat constructor)); assumption))))
    | ((with_reducible refine' Wl.out ?_; apply wg_load hS); (· (first | exact Try.underlying3 | exact Try.underlying22)); (· exact rfl); (· (first | rfl | (go_simp; done))); (· exact rfl); (· (first | (apply Find.box; (· (repeat constructor)); rfl) | exact Find.mem (by assumption) | (apply Find.row; (· (repeat constructor)); assumption))))
    | ((with_reducible refine' Wl.out ?_; apply wl_loads hS); (· (first | exact rowT44 | exact rowT70)); (· exact rfl); (· (first | (apply Finds.box; (· (repeat constructor)); (· (repeat constructor)); done) | (refine Finds.mem2 (by assumption) ?_; first | rfl | assumption | (simp; done)) | (apply Finds.row; (· (repeat constructor)); (· assumption); (· rfl)))))
    | ((with_reducible refine' Wl.out ?_; apply wg_loads hS); (· (first | exact rowT44 | exact rowT70)); (· (first | rfl | (go_simp; done))); (· exact rfl); (· (first | (apply Finds.box; (· (repeat constructor)); (· (repeat constructor)); done) | (refine Finds.mem2 (by assumption) ?_; first | rfl | assumption | (simp; done)) | (apply Finds.row; (· (repeat constructor)); (· assumption); (· rfl)))))
    | ((with_reducible refine' Wl.out ?_); (with_reducible refine' wg_case ?_ ?_) <;> (intro hgW; (try (have hg2 := hgW; simp [go_sem] at hg2)); (first | (exfalso; assumption) | ((with_reducible refine' Wl.out ?_; apply wl_unwanted); (· exact hgW)) | ((with_reducible refine' Wl.out ?_; apply wg_load hS); (· (first | exact Try.underlying3 | exact Try.underlying22)); (· exact rfl); (· exact hgW); (· exact rfl); (· (first | (apply Find.box; (· (repeat constructor)); rfl) | exact Find.mem (by assumption) | (apply Find.row; (· (repeat constructor)); assumption)))) | ((with_reducible refine' Wl.out ?_; apply wg_loads hS); (· (first | exact rowT44 | exact rowT70)); (· exact hgW); (· exact rfl); (· (first | (apply Finds.box; (· (repeat constructor)); (· (repeat constructor)); done) | (refine Finds.mem2 (by assumption) ?_; first | rfl | assumption | (simp; done)) | (apply Finds.row; (· (repeat constructor)); (· assumption); (· rfl)))))); clear hgW))
    | (go_at_call 51; (fail_if_success (clear Mk6)); refine (letInt (rcheck_c _ _ hS.inw _ _ (by first | exact A0.out | exact dkL_dry A0.out | exact Lay.nil_rd _ _))).mono ?_; rintro e' w6 ⟨_, m6, rfl, ⟨E6, HE6, rfl⟩, hk⟩; replace hS := hS.call hk; (try replace A0 := Lib.hid (Lay.mono _ hk.le A0.out)); clear hk; replace HE6 := Lib.hid (HE6.out.trans CE.out); obtain rfl := HE6.out; have Mk6 := True.intro)
    | (go_at_call 64; (fail_if_success (clear Mk10)); refine (letInt (rjcheck_v _ _ hS.inw _ _ _ _ _)).mono ?_; rintro e' w10 ⟨_, m10, rfl, ⟨E10, HE10, rfl⟩, hk⟩; replace hS := hS.call hk; (try replace A0 := Lib.hid (Lay.mono _ hk.le A0.out)); clear hk; replace HE10 := Lib.hid (HE10.out.trans GE.out); obtain rfl := HE10.out; have Mk10 := True.intro))
      all_goals
        go_ret
        refine ⟨_, _, rfl, ?_, hS.done⟩
        unfold thereB
        simp [HD.out, HG.out]
    · have GE : Hid (lcheckE ⟨b, s, g, p, n⟩ = 1) := if_neg hg
      have HG := Lib.hid hg
      clear hg hl
      go_enter Try.func89, Try.ntmps89
      go_wp2_with (first
    | ((with_reducible refine' Wl.out ?_; apply wl_box (ty := 44) (y := (.tmp 0)) hS); (· (first | (go_simp; done) | (go_simp; with_reducible rfl))); (· exact rfl); clear hS; intro w2 b2 hS)
    | ((with_reducible refine' Wl.out ?_; apply wl_box (ty := 70) (y := (.tmp 1)) hS); (· (first | (go_simp; done) | (go_simp; with_reducible rfl))); (· exact rfl); clear hS; intro w3 b3 hS)
    | ((with_reducible refine' Wl.out ?_; apply wl_load hS); (· (first | exact Try.underlying3 | exact Try.underlying22)); (· exact rfl); (· exact rfl); (· (first | (apply Find.box; (· (repeat constructor)); rfl) | exact Find.mem (by assumption) | (apply Find.row; (· (repeat constructor)); assumption))))
    | ((with_reducible refine' Wl.out ?_; apply wg_load hS); (· (first | exact Try.underlying3 | exact Try.underlying22)); (· exact rfl); (· (first | rfl | (go_simp; done))); (· exact rfl); (· (first | (apply Find.box; (· (repeat constructor)); rfl) | exact Find.mem (by assumption) | (apply Find.row; (· (repeat constructor)); assumption))))
    | ((with_reducible refine' Wl.out ?_; apply wl_loads hS); (· (first | exact rowT44 | exact rowT70)); (· exact rfl); (· (first | (apply Finds.box; (· (repeat constructor)); (· (repeat constructor)); done) | (refine Finds.mem2 (by assumption) ?_; first | rfl | assumption | (simp; done)) | (apply Finds.row; (· (repeat constructor)); (· assumption); (· rfl)))))
    | ((with_reducible refine' Wl.out ?_; apply wg_loads hS); (· (first | exact rowT44 | exact rowT70)); (· (first | rfl | (go_simp; done))); (· exact rfl); (· (first | (apply Finds.box; (· (repeat constructor)); (· (repeat constructor)); done) | (refine Finds.mem2 (by assumption) ?_; first | rfl | assumption | (simp; done)) | (apply Finds.row; (· (repeat constructor)); (· assumption); (· rfl)))))
    | ((with_reducible refine' Wl.out ?_); (with_reducible refine' wg_case ?_ ?_) <;> (intro hgW; (try (have hg2 := hgW; simp [go_sem] at hg2)); (first | (exfalso; assumption) | ((with_reducible refine' Wl.out ?_; apply wl_unwanted); (· exact hgW)) | ((with_reducible refine' Wl.out ?_; apply wg_load hS); (· (first | exact Try.underlying3 | exact Try.underlying22)); (· exact rfl); (· exact hgW); (· exact rfl); (· (first | (apply Find.box; (· (repeat constructor)); rfl) | exact Find.mem (by assumption) | (apply Find.row; (· (repeat constructor)); assumption)))) | ((with_reducible refine' Wl.out ?_; apply wg_loads hS); (· (first | exact rowT44 | exact rowT70)); (· exact hgW); (· exact rfl); (· (first | (apply Finds.box; (· (repeat constructor)); (· (repeat constructor)); done) | (refine Finds.mem2 (by assumption) ?_; first | rfl | assumption | (simp; done)) | (apply Finds.row; (· (repeat constructor)); (· assumption); (· rfl)))))); clear hgW))
    | (go_at_call 51; (fail_if_success (clear Mk6)); refine (letInt (rcheck_c _ _ hS.inw _ _ (by first | exact A0.out | exact dkL_dry A0.out | exact Lay.nil_rd _ _))).mono ?_; rintro e' w6 ⟨_, m6, rfl, ⟨E6, HE6, rfl⟩, hk⟩; replace hS := hS.call hk; (try replace A0 := Lib.hid (Lay.mono _ hk.le A0.out)); clear hk; replace HE6 := Lib.hid (HE6.out.trans CE.out); obtain rfl := HE6.out; have Mk6 := True.intro)
    | (go_at_call 64; (fail_if_success (clear Mk10)); refine (letInt (rjcheck_v _ _ hS.inw _ _ _ _ _)).mono ?_; rintro e' w10 ⟨_, m10, rfl, ⟨E10, HE10, rfl⟩, hk⟩; replace hS := hS.call hk; (try replace A0 := Lib.hid (Lay.mono _ hk.le A0.out)); clear hk; replace HE10 := Lib.hid (HE10.out.trans GE.out); obtain rfl := HE10.out; have Mk10 := True.intro))
      all_goals
        go_ret
        refine ⟨_, _, rfl, ?_, hS.done⟩
        rw [there_no (fun hh => HG.out hh.2.1)]; rfl
  · have CE : Hid (checkE d = 1) := if_neg hd
    have HD := Lib.hid hd
    clear hd hl
    go_enter Try.func89, Try.ntmps89
    go_wp2_with (first
    | ((with_reducible refine' Wl.out ?_; apply wl_box (ty := 44) (y := (.tmp 0)) hS); (· (first | (go_simp; done) | (go_simp; with_reducible rfl))); (· exact rfl); clear hS; intro w2 b2 hS)
    | ((with_reducible refine' Wl.out ?_; apply wl_box (ty := 70) (y := (.tmp 1)) hS); (· (first | (go_simp; done) | (go_simp; with_reducible rfl))); (· exact rfl); clear hS; intro w3 b3 hS)
    | ((with_reducible refine' Wl.out ?_; apply wl_load hS); (· (first | exact Try.underlying3 | exact Try.underlying22)); (· exact rfl); (· exact rfl); (· (first | (apply Find.box; (· (repeat constructor)); rfl) | exact Find.mem (by assumption) | (apply Find.row; (· (repeat constructor)); assumption))))
    | ((with_reducible refine' Wl.out ?_; apply wg_load hS); (· (first | exact Try.underlying3 | exact Try.underlying22)); (· exact rfl); (· (first | rfl | (go_simp; done))); (· exact rfl); (· (first | (apply Find.box; (· (repeat constructor)); rfl) | exact Find.mem (by assumption) | (apply Find.row; (· (repeat constructor)); assumption))))
    | ((with_reducible refine' Wl.out ?_; apply wl_loads hS); (· (first | exact rowT44 | exact rowT70)); (· exact rfl); (· (first | (apply Finds.box; (· (repeat constructor)); (· (repeat constructor)); done) | (refine Finds.mem2 (by assumption) ?_; first | rfl | assumption | (simp; done)) | (apply Finds.row; (· (repeat constructor)); (· assumption); (· rfl)))))
    | ((with_reducible refine' Wl.out ?_; apply wg_loads hS); (· (first | exact rowT44 | exact rowT70)); (· (first | rfl | (go_simp; done))); (· exact rfl); (· (first | (apply Finds.box; (· (repeat constructor)); (· (repeat constructor)); done) | (refine Finds.mem2 (by assumption) ?_; first | rfl | assumption | (simp; done)) | (apply Finds.row; (· (repeat constructor)); (· assumption); (· rfl)))))
    | ((with_reducible refine' Wl.out ?_); (with_reducible refine' wg_case ?_ ?_) <;> (intro hgW; (try (have hg2 := hgW; simp [go_sem] at hg2)); (first | (exfalso; assumption) | ((with_reducible refine' Wl.out ?_; apply wl_unwanted); (· exact hgW)) | ((with_reducible refine' Wl.out ?_; apply wg_load hS); (· (first | exact Try.underlying3 | exact Try.underlying22)); (· exact rfl); (· exact hgW); (· exact rfl); (· (first | (apply Find.box; (· (repeat constructor)); rfl) | exact Find.mem (by assumption) | (apply Find.row; (· (repeat constructor)); assumption)))) | ((with_reducible refine' Wl.out ?_; apply wg_loads hS); (· (first | exact rowT44 | exact rowT70)); (· exact hgW); (· exact rfl); (· (first | (apply Finds.box; (· (repeat constructor)); (· (repeat constructor)); done) | (refine Finds.mem2 (by assumption) ?_; first | rfl | assumption | (simp; done)) | (apply Finds.row; (· (repeat constructor)); (· assumption); (· rfl)))))); clear hgW))
    | (go_at_call 51; (fail_if_success (clear Mk6)); refine (letInt (rcheck_c _ _ hS.inw _ _ (by first | exact A0.out | exact dkL_dry A0.out | exact Lay.nil_rd _ _))).mono ?_; rintro e' w6 ⟨_, m6, rfl, ⟨E6, HE6, rfl⟩, hk⟩; replace hS := hS.call hk; (try replace A0 := Lib.hid (Lay.mono _ hk.le A0.out)); clear hk; replace HE6 := Lib.hid (HE6.out.trans CE.out); obtain rfl := HE6.out; have Mk6 := True.intro)
    | (go_at_call 64; (fail_if_success (clear Mk10)); refine (letInt (rjcheck_v _ _ hS.inw _ _ _ _ _)).mono ?_; rintro e' w10 ⟨_, m10, rfl, ⟨E10, HE10, rfl⟩, hk⟩; replace hS := hS.call hk; (try replace A0 := Lib.hid (Lay.mono _ hk.le A0.out)); clear hk; replace HE10 := Lib.hid (HE10.out.trans GE.out); obtain rfl := HE10.out; have Mk10 := True.intro))
    all_goals
      go_ret
      refine ⟨_, _, rfl, ?_, hS.done⟩
      rw [there_no (fun hh => HD.out hh.1)]; rfl
end Go.Proofs.Ytnmgiiaejpaeeaa
/- Stamps over the state of a walk: Seal, Pair, Open, of the program and of the reference. -/
namespace Go.Proofs.Ytnmgiiaejpaeeaa
set_option linter.unusedVariables false
set_option linter.unusedSimpArgs false
open Go.RowKit Go.Shelf
section
variable {ops : Array Oper} {P : Program} {X : List Nat} {w0 w : World} {m0 m : Mem} {es : List Ent} {o : Oper} {a : Act} {K : Act → World → Prop} {Q : Exit → Act → World → Prop}
variable {rest : List Oper} {dst : Option Tmp} {rt : TypeId} {pos : String} {af : Array Edge}
/-- A literal of a slice that is appended to. -/
theorem op_litR (hS : St X w0 m0 w es m) {t e : TypeId} {size bytes : Nat} {z : Value} (hE : Elem P t e size bytes z) (len : Nat) (parts : Array (Nat × Operand)) (ho : o.op = .buildSlice t len parts) (hlen : len * size ≤ 16777216) (hpos : len * size ≠ 0) (cs : List Value)
    (hf : Instr.fill (fun i => some (i * size, size)) ((Array.range (len * size)).map (z.cells[· % z.cells.size]!)) (parts.map fun (i, x) => (i, a.eval x)).toList = some cs.toArray) (hcl : cs.length = len * size) (hm : len ≤ maxLen)
    (h : ∀ w' b, St X w0 m0 w' (.row e size (.slice (some ⟨b, 0, none⟩) len len) len cs :: es) m → K (a.put o.dst (.slice (some ⟨b, 0, none⟩) len len)) w') : o.wp P a w K Q := by
  obtain ⟨ti, ht1, ht2, ht3, ht4⟩ := hE.at
  have hrun : (Instr.buildSlice t len (parts.map fun (i, x) => (i, a.eval x))).run P w = .ok (.slice (some ⟨w.heap.size, 0, none⟩) len len) (w.alloc (.cells cs.toArray e)) := by
    have hn : ¬ (16777216 < len * size) := by omega
    simp only [Instr.buildSlice, Sem.run_bind, run_underlying hE.under, Result.andThen_ok, sizeOf, typeInfo, zeroValue]
    have hf2 : Instr.fill (fun i => some (i * size, size)) (Array.map (fun x => z.cells[x % z.cells.size]!) (Array.range (len * size))) (List.map (fun x => (x.fst, a.eval x.snd)) parts.toList) = some cs.toArray := by simpa using hf
    simp [ht1, ht2, ht3, hn, hpos, newRow, newObj, Sem.run_bind, Sem.run, ← World.alloc_eq]
    rw [hf2]
    rfl
  unfold Oper.wp execOp
  simp only [ho, Sem.run_bind, hrun, Result.andThen_ok, Sem.run_pure]
  refine h _ _ (hS.add _ (grownBy_new _ _) ?_ (fun b hb => ?_))
  · refine ⟨hcl, .inr ⟨w.heap.size, len, cs.toArray, rfl, Nat.zero_le _, heap_alloc_new w _, Nat.le_refl _, hm, by simpa using hcl, ?_⟩⟩
    simp [← hcl]
  · simp [Ent.blk, Value.ownBlock] at hb
    omega
theorem wl_litR {t e : TypeId} {size bytes : Nat} {z : Value} (hE : Elem P t e size bytes z) {len : Nat} {parts : Array (Nat × Operand)} (hS : St X w0 m0 w es m) {cs : List Value} (hlen : len * size ≤ 16777216) (hpos : len * size ≠ 0)
    (hf : Instr.fill (fun i => some (i * size, size)) ((Array.range (len * size)).map (z.cells[· % z.cells.size]!)) (parts.map fun (i, x) => (i, a.eval x)).toList = some cs.toArray) (hcl : cs.length = len * size) (hm : len ≤ maxLen)
    (h : ∀ w' b, St X w0 m0 w' (.row e size (.slice (some ⟨b, 0, none⟩) len len) len cs :: es) m → wpList P ops Q rest (a.put dst (.slice (some ⟨b, 0, none⟩) len len)) w') : Wl P ops Q (⟨dst, .buildSlice t len parts, rt, pos, af, none⟩ :: rest) a w :=
  ⟨wpList_plain rfl fun K hK => op_litR hS hE len parts rfl hlen hpos cs hf hcl hm fun w' b hw => hK _ _ (h w' b hw)⟩
end
/-- New memory is read from now on. -/
theorem fr_ret {w w' : World} {m : Mem} {v : Value} {xs : List Int} (hm : m.In w) (hf : Fr .u8 w.heap.size w' v xs) (hk : ∀ x ∈ xs, InK .u8 x) (hl : xs.length ≤ 140737488355328) (hb : Below w.heap.size w w') : ∃ m', St [] w m w' [] m' ∧ bytesL.rd m' [v] xs := by
  have hS := (St.start hm).grow (grownBy_of_below hb)
  refine ⟨fun a => if w.heap.size ≤ a.block then w'.cell? a else m a, ⟨hS.kept, by simp, .nil, fun a u h => ?_, fun a u h => ?_, fun a u h => ?_⟩, ?_⟩
  · split at h
    · exact ⟨h, by simp⟩
    · exact ⟨hS.inw _ _ h, by simp⟩
  · have := World.block_lt_of_cell? w a (hm _ _ h)
    show (if w.heap.size ≤ a.block then w'.cell? a else m a) = some u
    rw [if_neg (by omega)]
    exact h
  · split at h
    · exact .inr (.inl ‹_›)
    · exact .inl h
  · obtain ⟨p, c, rfl, h1, h2, h3⟩ := hf
    refine ⟨p, c, rfl, h1, h2, by simpa [Lay.int, kBytes] using hl, rowInt hk fun h0 => ?_⟩
    obtain ⟨g, o, e, hg, hc⟩ := h3 h0
    refine ⟨g, o, e, fun i hi => ?_⟩
    show (if w.heap.size ≤ g then w'.cell? _ else m _) = _
    rw [if_pos hg]
    exact (hc i hi).1
theorem bytes_rd {m : Mem} {w : World} {v : Value} {xs : List Int} (hm : m.In w) (h : bytesL.rd m [v] xs) : ∃ p c, v = .slice p xs.length c ∧ xs.length ≤ c ∧ c ≤ maxLen ∧ xs.length ≤ 140737488355328 ∧ Rd .u8 w p xs ∧ IsB xs := by
  obtain ⟨p, c, rfl, h1, h2, h3, h4⟩ := Lay.list_open h
  exact ⟨p, c, rfl, h1, h2, by simpa [Lay.int, kBytes] using h3, h4.rdInt hm, inK_isB h4.inK⟩
theorem sealR_isB {n : Int} {xs : List Int} (h : IsB xs) : IsB (sealR n xs) := by
  unfold sealR
  split
  · unfold sealB
    intro x hx
    simp only [List.mem_append] at hx
    have h8 : ∀ x ∈ le8 n, 0 ≤ x ∧ x < 256 := by
      intro x hx
      simp only [le8, List.mem_cons, List.mem_nil_iff, or_false] at hx
      omega
    rcases hx with hx | hx | hx
    · exact h8 x hx
    · unfold pad16 at hx
      rcases List.mem_append.1 hx with hx | hx
      · exact h x hx
      · rw [(List.mem_replicate.1 hx).2]; omega
    · exact h8 x hx
  · intro x hx; simp at hx
theorem sealR_len {n : Int} {xs : List Int} : (sealR n xs).length ≤ 140737488355328 := by
  unfold sealR
  split
  · rename_i h
    have : xs.length ≤ 16 := by
      unfold sealE at h
      split at h
      · cases h
      · split at h
        · cases h
        · omega
    simp [sealB, le8, pad16]; omega
  · simp
theorem seal_c (m : Mem) (w : World) (hm : m.In w) (n : Int) (vb : Value) (b : List Int) (hb : bytesL.rd m [vb] b) :
    Calls Try.prog 22 #[.int .i64 n, vb] w (RetBE w m (sealR n b) (sealE n b.length)) := by
  obtain ⟨p, c, rfl, h1, h2, h3, h4, h5⟩ := bytes_rd hm hb
  refine (seal_any n p c b w h4 h5 h1 (by omega)).mono ?_
  rintro e w' ⟨v, rfl, hf, hbl⟩
  obtain ⟨m', k1, k2⟩ := fr_ret hm hf (isB_inK (sealR_isB h5)) sealR_len hbl
  exact ⟨_, m', rfl, ⟨_, rfl, k2⟩, k1⟩
theorem rseal_c (m : Mem) (w : World) (hm : m.In w) (n : Int) (vb : Value) (b : List Int) (hb : bytesL.rd m [vb] b) :
    Calls Try.prog 27 #[.int .i64 n, vb] w (RetBE w m (sealR n b) (sealE n b.length)) := by
  obtain ⟨p, c, rfl, h1, h2, h3, h4, h5⟩ := bytes_rd hm hb
  simp only [maxLen] at h2
  refine (ref_seal_any n p c b w h4 h1 (by omega)).mono ?_
  rintro e w' ⟨v, rfl, hf, hbl⟩
  obtain ⟨m', k1, k2⟩ := fr_ret hm hf (isB_inK (sealR_isB h5)) sealR_len hbl
  exact ⟨_, m', rfl, ⟨_, rfl, k2⟩, k1⟩
theorem pair_c (m : Mem) (w : World) (hm : m.In w) (g a : Int) :
    Calls Try.prog 24 #[.int .i64 g, .int .i64 a] w (Ret w m fun v _ => v = .tuple #[.int .i64 (pairV g a), .int .i64 (pairE g a)]) :=
  (pair_any g a w).mono fun e w' ⟨h1, h2⟩ => by subst h2; exact ⟨_, m, h1, rfl, St.start hm⟩
/-- A stamp, octets, and an error, are handed back. -/
def RetOpen (w : World) (m : Mem) (xs : List Int) : Ending → World → Prop := Ret w m fun v m' => ∃ q c Y N E, Hid (Y = openP xs) ∧ Hid (N = openN xs) ∧ Hid (E = openE xs) ∧ v = .tuple #[.int .i64 N, .slice q Y.length c, .int .i64 E] ∧ Hid (bytesL.rd m' [.slice q Y.length c] Y) ∧ Hid (Y.length ≤ c ∧ c ≤ maxLen)
theorem open_ret {w w' : World} {m : Mem} {xs : List Int} {e : Ending} (hm : m.In w) (hb : IsB xs) (hl : xs.length ≤ 140737488355328) (h : OpenPost xs w e w') : RetOpen w m xs e w' := by
  obtain ⟨v, rfl, hf, hbl⟩ := h
  have hB : IsB (openP xs) := by
    unfold openP
    split
    · exact fun x hx => hb x (List.mem_of_mem_drop (List.mem_of_mem_take hx))
    · intro x hx; simp at hx
  have hL : (openP xs).length ≤ 140737488355328 := by
    unfold openP
    split
    · simp; omega
    · simp
  obtain ⟨m', k1, k2⟩ := fr_ret hm hf (isB_inK hB) hL hbl
  have k3 := k2
  obtain ⟨q, c, rfl, a1, a2, _⟩ := Lay.list_open k2
  exact ⟨_, m', rfl, ⟨q, c, _, _, _, rfl, rfl, rfl, rfl, k3, a1, a2⟩, k1⟩
theorem open_c (m : Mem) (w : World) (hm : m.In w) (vb : Value) (b : List Int) (hb : bytesL.rd m [vb] b) :
    Calls Try.prog 23 #[vb] w (RetOpen w m b) := by
  obtain ⟨p, c, rfl, h1, h2, h3, h4, h5⟩ := bytes_rd hm hb
  simp only [maxLen] at h2
  exact (open_any p c b w h4 h5 h1 (by omega)).mono fun e w' h => open_ret hm h5 h3 h
theorem ropen_c (m : Mem) (w : World) (hm : m.In w) (vb : Value) (b : List Int) (hb : bytesL.rd m [vb] b) :
    Calls Try.prog 28 #[vb] w (RetOpen w m b) := by
  obtain ⟨p, c, rfl, h1, h2, h3, h4, h5⟩ := bytes_rd hm hb
  simp only [maxLen] at h2
  exact (ref_open_any p c b w h4 h5 h1 (by omega)).mono fun e w' h => open_ret hm h5 h3 h
end Go.Proofs.Ytnmgiiaejpaeeaa
/- A journal's part: contracts of piece.seal, and of the reference's part. -/
namespace Go.Proofs.Ytnmgiiaejpaeeaa
set_option linter.unusedVariables false
set_option linter.unusedSimpArgs false
open Go.RowKit Go.Shelf
def stampOf (g : Lg) : Int := g.gen * 1048576 + 524288 + g.n
def partPay (i parts : Nat) (own : List Int) : List Int := [(i : Int) % 256, (i : Int) / 256, (parts : Int) % 256, (parts : Int) / 256, (own.length : Int)] ++ own
def partB (g : Lg) (i parts : Nat) (own : List Int) : List Int := sealB (stampOf g) (partPay i parts own)
theorem pair_stamp {g : Lg} (h : lgOK g) : pairE g.gen (524288 + g.n) = 0 ∧ pairV g.gen (524288 + g.n) = stampOf g := by
  obtain ⟨_, _, _, _, h5, h6, _, _, h9, h10⟩ := h
  have hp : pairOK g.gen (524288 + g.n) := by unfold pairOK; omega
  exact ⟨if_pos hp, by unfold pairV stampOf; rw [if_pos hp]; omega⟩
theorem part_seal {g : Lg} (h : lgOK g) {i parts : Nat} {own : List Int} (hl : own.length ≤ 11) : sealE (stampOf g) (partPay i parts own).length = 0 ∧ sealR (stampOf g) (partPay i parts own) = partB g i parts own := by
  obtain ⟨_, _, _, _, h5, h6, _, _, h9, h10⟩ := h
  have he : sealE (stampOf g) (partPay i parts own).length = 0 := by
    unfold sealE stampOf partPay
    rw [if_neg (by omega), if_neg (by simp; omega)]
  exact ⟨he, by unfold sealR; rw [if_pos he]; rfl⟩
set_option maxRecDepth 100000 in
set_option maxHeartbeats 4000000 in
theorem pseal_c (m : Mem) (w : World) (hm : m.In w) (i parts : Nat) (vo : Value) (own : List Int) (ho : bytesL.rd m [vo] own) (b s g p n : Int) (hg : lgOK ⟨b, s, g, p, n⟩) (hl : own.length ≤ 11) (hi : i < 65536) (hp : parts < 65536) :
    Calls Try.prog 88 #[.agg ([.int .i64 i, .int .i64 parts, vo] : List Value).toArray, .agg ([.int .i64 b, .int .i64 s, .int .i64 g, .int .i64 p, .int .i64 n] : List Value).toArray] w (RetBE w m (partB ⟨b, s, g, p, n⟩ i parts own) 0) := by
  have A0 := Lib.hid ho
  obtain ⟨po, co, rfl, o1, o2, o3, o4⟩ := Lay.list_open ho
  have hS := St.start hm
  have HG := Lib.hid hg
  obtain ⟨PE, PV⟩ := pair_stamp hg
  have HPE := Lib.hid PE
  have HPV := Lib.hid PV
  obtain ⟨_, _, _, _, g5, g6, _, _, g9, g10⟩ := hg
  simp only at g5 g6 g9 g10
  clear ho o1 o2 o3 o4 PE PV
  go_enter Try.func88, Try.ntmps88
  go_wp2_with (first
    | ((with_reducible refine' Wl.out ?_; apply wl_box (ty := 118) (y := (.tmp 0)) hS); (· (first | (go_simp; done) | (go_simp; with_reducible rfl))); (· exact rfl); clear hS; intro w2 b2 hS)
    | ((with_reducible refine' Wl.out ?_; apply wl_box (ty := 70) (y := (.tmp 1)) hS); (· (first | (go_simp; done) | (go_simp; with_reducible rfl))); (· exact rfl); clear hS; intro w3 b3 hS)
    | ((with_reducible refine' Wl.out ?_; apply wl_load hS); (· (first | exact Try.underlying2 | exact Try.underlying3 | exact Try.underlying22)); (· exact rfl); (· exact rfl); (· (first | (apply Find.box; (· (repeat constructor)); rfl) | exact Find.mem (by assumption) | (apply Find.row; (· (repeat constructor)); assumption))))
    | ((with_reducible refine' Wl.out ?_; apply wg_load hS); (· (first | exact Try.underlying2 | exact Try.underlying3 | exact Try.underlying22)); (· exact rfl); (· (first | rfl | (go_simp; done))); (· exact rfl); (· (first | (apply Find.box; (· (repeat constructor)); rfl) | exact Find.mem (by assumption) | (apply Find.row; (· (repeat constructor)); assumption))))
    | (go_at_call 24; (fail_if_success (clear Mk15)); refine (letII (pair_c _ _ hS.inw _ _)).mono ?_; rintro e' w15 ⟨_, m15, rfl, ⟨N15, E15, HN15, HE15, rfl⟩, hk⟩; replace hS := hS.call hk; (try replace A0 := Lib.hid (Lay.mono _ hk.le A0.out)); (try replace R45 := Lib.hid (Lay.mono _ hk.le R45.out)); clear hk; replace HE15 := Lib.hid (HE15.out.trans HPE.out); obtain rfl := HE15.out; replace HN15 := Lib.hid (HN15.out.trans HPV.out); have Mk15 := True.intro)
    | ((with_reducible refine' Wl.out ?_; apply wl_litR el_u8 hS (cs := [.int .u8 ((i : Int) % 256), .int .u8 ((i : Int) / 256), .int .u8 ((parts : Int) % 256), .int .u8 ((parts : Int) / 256), .int .u8 (own.length : Int)])); (· decide); (· decide); (· kernel_rfl); (· rfl); (· decide); clear hS; intro w39 b39 hS)
    | ((with_reducible refine' Wl.out ?_; apply wl_append u8L el_u8 hS (by decide)); (· exact rfl); (· (repeat constructor)); (· exact rfl); (· exact A0.out); (· simp [Lay.int, kBytes]; omega); clear hS; intro w44 q44 c44 news44 hc44 hS; obtain ⟨rfl, _⟩ := cellsInt hc44; clear hc44))
  have hpl : (partPay i parts own).length = 5 + own.length := by simp [partPay]; omega
  have hpk : ∀ x ∈ partPay i parts own, InK .u8 x := fun x hx => by
    unfold partPay at hx
    rcases List.mem_append.1 hx with hx | hx
    · simp only [List.mem_cons, List.mem_nil_iff, or_false] at hx
      simp only [InK, IntKind.min, IntKind.max, IntKind.signed, IntKind.bits]
      rcases hx with rfl | rfl | rfl | rfl | rfl <;> simp <;> omega
    · obtain ⟨_, _, _, _, _, _, h4⟩ := A0.out
      exact h4.inK x hx
  obtain ⟨m7, hS7, hle7, hrd⟩ := hS.settleRow' (L := u8L) (xs := partPay i parts own) 0 hpl rfl (by have := cells_of_ints (m := m15) hpk; simpa [partPay] using this) (by rw [hpl]; simp [Lay.int, kBytes]; omega)
  simp only [List.eraseIdx_cons_zero] at hS7
  rw [← hpl] at hrd
  rw [← hpl]
  clear hS
  obtain ⟨q1, q2⟩ := part_seal HG.out (i := i) (parts := parts) hl
  have Q1 := Lib.hid q1
  have Q2 := Lib.hid q2
  have HN := HN15.out
  refine (seal_c _ _ hS7.inw _ _ _ hrd).mono ?_
  rintro e' w45 ⟨v45, m45, rfl, ⟨vb, rfl, hr45⟩, hk⟩
  have hS := hS7.call hk
  rw [HN, Q2.out] at hr45
  rw [HN, Q1.out]
  have HR := Lib.hid hr45
  clear hk hS7 hle7 hrd hpl hpk q1 q2 Q1 Q2 hr45 HN HN15
  go_wp2_with (first
    | ((with_reducible refine' Wl.out ?_; apply wl_box (ty := 118) (y := (.tmp 0)) hS); (· (first | (go_simp; done) | (go_simp; with_reducible rfl))); (· exact rfl); clear hS; intro w2 b2 hS)
    | ((with_reducible refine' Wl.out ?_; apply wl_box (ty := 70) (y := (.tmp 1)) hS); (· (first | (go_simp; done) | (go_simp; with_reducible rfl))); (· exact rfl); clear hS; intro w3 b3 hS)
    | ((with_reducible refine' Wl.out ?_; apply wl_load hS); (· (first | exact Try.underlying2 | exact Try.underlying3 | exact Try.underlying22)); (· exact rfl); (· exact rfl); (· (first | (apply Find.box; (· (repeat constructor)); rfl) | exact Find.mem (by assumption) | (apply Find.row; (· (repeat constructor)); assumption))))
    | ((with_reducible refine' Wl.out ?_; apply wg_load hS); (· (first | exact Try.underlying2 | exact Try.underlying3 | exact Try.underlying22)); (· exact rfl); (· (first | rfl | (go_simp; done))); (· exact rfl); (· (first | (apply Find.box; (· (repeat constructor)); rfl) | exact Find.mem (by assumption) | (apply Find.row; (· (repeat constructor)); assumption)))))
  go_ret2
  exact ⟨_, _, rfl, ⟨_, rfl, HR.out⟩, hS.done⟩
end Go.Proofs.Ytnmgiiaejpaeeaa
/- A journal's part: contract of the reference's part. -/
namespace Go.Proofs.Ytnmgiiaejpaeeaa
set_option linter.unusedVariables false
set_option linter.unusedSimpArgs false
open Go.RowKit Go.Shelf
/-- A part of a text. -/
def chunkOf (text : List Int) (i : Nat) : List Int := (text.take (11 * i + 11)).drop (11 * i)
theorem chunk_len (text : List Int) (i : Nat) : (chunkOf text i).length = min 11 (text.length - 11 * i) := by simp [chunkOf]; omega
theorem chunk_min (text : List Int) (i : Nat) : (text.take (min (11 * i + 11) text.length)).drop (11 * i) = chunkOf text i := by
  unfold chunkOf
  by_cases h : 11 * i + 11 ≤ text.length
  · rw [Nat.min_eq_left h]
  · rw [Nat.min_eq_right (by omega), List.take_of_length_le (Nat.le_refl _), List.take_of_length_le (by omega)]
set_option maxRecDepth 100000 in
set_option maxHeartbeats 4000000 in
theorem rpart_c (m : Mem) (w : World) (hm : m.In w) (i parts : Nat) (vt : Value) (text : List Int) (ht : bytesL.rd m [vt] text) (b s g p n : Int) (hg : lgOK ⟨b, s, g, p, n⟩) (hl : text.length ≤ 65536) (hi : 11 * i < text.length) (hp : parts < 65536) :
    Calls Try.prog 90 #[.agg ([.int .i64 b, .int .i64 s, .int .i64 g, .int .i64 p, .int .i64 n] : List Value).toArray, vt, .int .i64 i, .int .i64 parts] w (Ret w m fun v m' => bytesL.rd m' [v] (partB ⟨b, s, g, p, n⟩ i parts (chunkOf text i))) := by
  obtain ⟨pt, ct, rfl, o1, o2, o3, o4⟩ := Lay.list_open ht
  obtain ⟨b0, o0, rfl, _⟩ := o4 (by omega)
  have hpart := rdL_part ht (11 * i) (min (11 * i + 11) text.length) (by omega) (by omega)
  rw [show (Lay.int .u8).n = 1 from rfl, Nat.mul_one, chunk_min] at hpart
  have hcl := chunk_len text i
  have hS := St.start hm
  have HG := Lib.hid hg
  obtain ⟨_, _, _, _, g5, g6, _, _, g9, g10⟩ := hg
  simp only at g5 g6 g9 g10
  simp only [maxLen] at o2
  obtain ⟨own, hown⟩ : ∃ own, own = chunkOf text i := ⟨_, rfl⟩
  rw [← hown] at hpart hcl ⊢
  obtain ⟨hi2, hh⟩ : ∃ k, k = min (11 * i + 11) text.length := ⟨_, rfl⟩
  have hle : hi2 - 11 * i = own.length := by omega
  rw [← hh] at hpart
  rw [hle] at hpart
  have A0 := Lib.hid hpart
  have hol : own.length ≤ 11 := by omega
  have y1 : ¬ ct = 11 * i := by omega
  have hmin : min (11 * (i : Int) + 11) (text.length : Int) = (hi2 : Int) := by omega
  have HOWN := Lib.hid hown
  have h1 : 11 * i ≤ hi2 := by omega
  have h2 : hi2 ≤ text.length := by omega
  clear ht o3 o4 hpart hcl hown hh
  go_enter Try.func90, Try.ntmps90
  go_wp2_with (first
    | ((with_reducible refine' Wl.out ?_; apply wl_box (ty := 70) (y := (.tmp 0)) hS); (· (first | (go_simp; done) | (go_simp; with_reducible rfl))); (· exact rfl); clear hS; intro w4 b4 hS)
    | ((with_reducible refine' Wl.out ?_; apply wl_load hS); (· (first | exact Try.underlying2)); (· exact rfl); (· exact rfl); (· (first | (apply Find.box; (· (repeat constructor)); rfl) | exact Find.mem (by assumption) | (apply Find.row; (· (repeat constructor)); assumption))))
    | ((with_reducible refine' Wl.out ?_; apply wg_load hS); (· (first | exact Try.underlying2)); (· exact rfl); (· (first | rfl | (go_simp; done))); (· exact rfl); (· (first | (apply Find.box; (· (repeat constructor)); rfl) | exact Find.mem (by assumption) | (apply Find.row; (· (repeat constructor)); assumption))))
    | ((with_reducible refine' Wl.out ?_; apply wl_litR el_u8 hS (cs := [.int .u8 ((i : Int) % 256), .int .u8 ((i : Int) / 256), .int .u8 ((parts : Int) % 256), .int .u8 ((parts : Int) / 256), .int .u8 (own.length : Int)])); (· decide); (· decide); (· kernel_rfl); (· rfl); (· decide); clear hS; intro w39 b39 hS)
    | ((with_reducible refine' Wl.out ?_; apply wl_append u8L el_u8 hS (by decide)); (· exact rfl); (· (repeat constructor)); (· exact rfl); (· exact A0.out); (· simp [Lay.int, kBytes]; omega); clear hS; intro w44 q44 c44 news44 hc44 hS; obtain ⟨rfl, _⟩ := cellsInt hc44; clear hc44))
  have hpl : (partPay i parts own).length = 5 + own.length := by simp [partPay]; omega
  have hpk : ∀ x ∈ partPay i parts own, InK .u8 x := fun x hx => by
    unfold partPay at hx
    rcases List.mem_append.1 hx with hx | hx
    · simp only [List.mem_cons, List.mem_nil_iff, or_false] at hx
      simp only [InK, IntKind.min, IntKind.max, IntKind.signed, IntKind.bits]
      rcases hx with rfl | rfl | rfl | rfl | rfl <;> simp <;> omega
    · obtain ⟨_, _, _, _, _, _, h4⟩ := A0.out
      exact h4.inK x hx
  obtain ⟨m7, hS7, hle7, hrd⟩ := hS.settleRow' (L := u8L) (xs := partPay i parts own) 0 hpl rfl (by have := cells_of_ints (m := m) hpk; simpa [partPay] using this) (by rw [hpl]; simp [Lay.int, kBytes]; omega)
  simp only [List.eraseIdx_cons_zero] at hS7
  rw [← hpl] at hrd
  rw [← hpl]
  clear hS
  obtain ⟨q1, q2⟩ := part_seal HG.out (i := i) (parts := parts) hol
  have Q1 := Lib.hid q1
  have Q2 := Lib.hid q2
  refine (rseal_c _ _ hS7.inw _ _ _ hrd).mono ?_
  rintro e' w45 ⟨v45, m45, rfl, ⟨vb, rfl, hr45⟩, hk⟩
  have hS := hS7.call hk
  rw [show g * 1048576 + 524288 + n = stampOf ⟨b, s, g, p, n⟩ from rfl, Q2.out] at hr45
  have HR := Lib.hid hr45
  clear hk hS7 hle7 hrd hpl hpk q1 q2 Q1 Q2 hr45
  go_wp2_with (first
    | ((with_reducible refine' Wl.out ?_; apply wl_box (ty := 70) (y := (.tmp 0)) hS); (· (first | (go_simp; done) | (go_simp; with_reducible rfl))); (· exact rfl); clear hS; intro w4 b4 hS)
    | ((with_reducible refine' Wl.out ?_; apply wl_load hS); (· (first | exact Try.underlying2)); (· exact rfl); (· exact rfl); (· (first | (apply Find.box; (· (repeat constructor)); rfl) | exact Find.mem (by assumption) | (apply Find.row; (· (repeat constructor)); assumption))))
    | ((with_reducible refine' Wl.out ?_; apply wg_load hS); (· (first | exact Try.underlying2)); (· exact rfl); (· (first | rfl | (go_simp; done))); (· exact rfl); (· (first | (apply Find.box; (· (repeat constructor)); rfl) | exact Find.mem (by assumption) | (apply Find.row; (· (repeat constructor)); assumption)))))
  go_ret
  exact ⟨_, _, rfl, HR.out, hS.done⟩
/-- The part of no text. -/
theorem empty_part : chunkOf [] 0 = [] := rfl
set_option maxRecDepth 100000 in
set_option maxHeartbeats 4000000 in
theorem rpart_0 (m : Mem) (w : World) (hm : m.In w) (parts : Nat) (vt : Value) (text : List Int) (ht : bytesL.rd m [vt] text) (b s g p n : Int) (hg : lgOK ⟨b, s, g, p, n⟩) (hl : text = []) (hp : parts < 65536) :
    Calls Try.prog 90 #[.agg ([.int .i64 b, .int .i64 s, .int .i64 g, .int .i64 p, .int .i64 n] : List Value).toArray, vt, .int .i64 0, .int .i64 parts] w (Ret w m fun v m' => bytesL.rd m' [v] (partB ⟨b, s, g, p, n⟩ 0 parts [])) := by
  obtain ⟨pt, ct, rfl, o1, o2, o3, o4⟩ := Lay.list_open ht
  subst hl
  clear o4
  have hS := St.start hm
  have HG := Lib.hid hg
  obtain ⟨_, _, _, _, g5, g6, _, _, g9, g10⟩ := hg
  simp only at g5 g6 g9 g10
  simp only [maxLen] at o2
  clear ht o3 o1
  rw [show ([] : List Int).length = 0 from rfl]
  have HR0 : ∀ (m' : Mem) (q : Option Addr) (c : Nat), c ≤ maxLen → bytesL.rd m' [.slice q 0 c] [] := fun m' q c hc => ⟨q, c, rfl, Nat.zero_le _, hc, by simp, Row.nil _ _ _⟩
  have HR1 := Lib.hid HR0
  clear HR0
  have hm0 : min (11 : Int) 0 = 0 := by decide
  have hc0 : ct ≤ maxLen := by simp only [maxLen]; omega
  have hway : (pt = none ∧ ct = 0) ∨ (pt = none ∧ ct ≠ 0) ∨ ((∃ a, pt = some a) ∧ ct = 0) ∨ ((∃ a, pt = some a) ∧ ct ≠ 0) := by
    cases pt <;> by_cases h : ct = 0 <;> simp [h]
  rcases hway with ⟨rfl, rfl⟩ | ⟨rfl, y1⟩ | ⟨⟨pa, rfl⟩, rfl⟩ | ⟨⟨pa, rfl⟩, y1⟩
  all_goals
    go_enter Try.func90, Try.ntmps90
    go_wp2_with (first
    | ((with_reducible refine' Wl.out ?_; apply wl_box (ty := 70) (y := (.tmp 0)) hS); (· (first | (go_simp; done) | (go_simp; with_reducible rfl))); (· exact rfl); clear hS; intro w4 b4 hS)
    | ((with_reducible refine' Wl.out ?_; apply wl_load hS); (· (first | exact Try.underlying2)); (· exact rfl); (· exact rfl); (· (first | (apply Find.box; (· (repeat constructor)); rfl) | exact Find.mem (by assumption) | (apply Find.row; (· (repeat constructor)); assumption))))
    | ((with_reducible refine' Wl.out ?_; apply wg_load hS); (· (first | exact Try.underlying2)); (· exact rfl); (· (first | rfl | (go_simp; done))); (· exact rfl); (· (first | (apply Find.box; (· (repeat constructor)); rfl) | exact Find.mem (by assumption) | (apply Find.row; (· (repeat constructor)); assumption))))
      | ((with_reducible refine' Wl.out ?_; apply wl_litR el_u8 hS (cs := [.int .u8 0, .int .u8 0, .int .u8 ((parts : Int) % 256), .int .u8 ((parts : Int) / 256), .int .u8 0])); (· decide); (· decide); (· kernel_rfl); (· rfl); (· decide); clear hS; intro w39 b39 hS)
      | ((with_reducible refine' Wl.out ?_; apply wl_append (ys := []) u8L el_u8 hS (by decide)); (· exact rfl); (· (repeat constructor)); (· exact rfl); (· exact HR1.out _ _ _ (by first | decide | omega)); (· simp [Lay.int, kBytes]; done); clear hS; intro w44 q44 c44 news44 hc44 hS; obtain ⟨rfl, _⟩ := cellsInt hc44; clear hc44))
    have hpl : (partPay 0 parts []).length = 5 := by simp [partPay]
    have hpk : ∀ x ∈ partPay 0 parts [], InK .u8 x := fun x hx => by
      simp only [partPay, List.append_nil, List.mem_cons, List.mem_nil_iff, or_false] at hx
      simp only [InK, IntKind.min, IntKind.max, IntKind.signed, IntKind.bits]
      rcases hx with rfl | rfl | rfl | rfl | rfl <;> simp <;> omega
    obtain ⟨m7, hS7, hle7, hrd⟩ := hS.settleRow' (L := u8L) (xs := partPay 0 parts []) 0 hpl rfl (by have := cells_of_ints (m := m) hpk; simpa [partPay] using this) (by rw [hpl]; simp [Lay.int, kBytes])
    simp only [List.eraseIdx_cons_zero] at hS7
    have hrd2 : bytesL.rd m7 [.slice q44 (partPay 0 parts []).length c44] (partPay 0 parts []) := by rw [hpl]; exact hrd
    clear hS hrd
    obtain ⟨q1, q2⟩ := part_seal HG.out (i := 0) (parts := parts) (own := []) (by decide)
    have Q1 := Lib.hid q1
    have Q2 := Lib.hid q2
    rw [hpl] at hrd2
    refine (rseal_c _ _ hS7.inw _ _ _ hrd2).mono ?_
    rintro e' w45 ⟨v45, m45, rfl, ⟨vb, rfl, hr45⟩, hk⟩
    have hS := hS7.call hk
    rw [show g * 1048576 + 524288 + n = stampOf ⟨b, s, g, p, n⟩ from rfl, Q2.out] at hr45
    have HR := Lib.hid hr45
    clear hk hS7 hle7 hrd2 hpl hpk q1 q2 Q1 Q2 hr45
    go_wp2_with (first
    | ((with_reducible refine' Wl.out ?_; apply wl_box (ty := 70) (y := (.tmp 0)) hS); (· (first | (go_simp; done) | (go_simp; with_reducible rfl))); (· exact rfl); clear hS; intro w4 b4 hS)
    | ((with_reducible refine' Wl.out ?_; apply wl_load hS); (· (first | exact Try.underlying2)); (· exact rfl); (· exact rfl); (· (first | (apply Find.box; (· (repeat constructor)); rfl) | exact Find.mem (by assumption) | (apply Find.row; (· (repeat constructor)); assumption))))
    | ((with_reducible refine' Wl.out ?_; apply wg_load hS); (· (first | exact Try.underlying2)); (· exact rfl); (· (first | rfl | (go_simp; done))); (· exact rfl); (· (first | (apply Find.box; (· (repeat constructor)); rfl) | exact Find.mem (by assumption) | (apply Find.row; (· (repeat constructor)); assumption)))))
    go_ret
    exact ⟨_, _, rfl, HR.out, hS.done⟩
end Go.Proofs.Ytnmgiiaejpaeeaa
/- What is appended to a journal: the plain function; contract of journal.Append. -/
namespace Go.Proofs.Ytnmgiiaejpaeeaa
set_option linter.unusedVariables false
set_option linter.unusedSimpArgs false
open Go.RowKit Go.Shelf
/-- The parts from the i-th one on are written: n of them. -/
def appGo (g : Lg) (text : List Int) (parts : Nat) : Nat → Nat → Dk → Dk × Int
  | 0, _, d => (d, 0)
  | n + 1, i, d =>
    if writeE d (g.base + g.pos + i) (partB g i parts (chunkOf text i)) = 0 then appGo g text parts n (i + 1) (writeD d (g.base + g.pos + i) (partB g i parts (chunkOf text i)))
    else (writeD d (g.base + g.pos + i) (partB g i parts (chunkOf text i)), writeE d (g.base + g.pos + i) (partB g i parts (chunkOf text i)))
def app0 (d : Dk) (g : Lg) (n : Nat) : Int :=
  if ¬ (checkOK d ∧ lgOK g) then 1 else if 65536 < n then 3 else if thereB d g = false then 1 else if g.size - g.pos < needN n ∨ g.n = 262144 then 7 else 0
def appR (d : Dk) (g : Lg) (text : List Int) : Dk × Lg × Int :=
  if app0 d g text.length ≠ 0 then (dk0, lg0, app0 d g text.length)
  else
    let r := appGo g text (needN text.length).toNat (needN text.length).toNat 0 d
    if r.2 ≠ 0 then (r.1, lg0, r.2)
    else if flushE r.1 ≠ 0 then (flushD r.1, lg0, flushE r.1)
    else (flushD r.1, { g with pos := g.pos + needN text.length, n := g.n + 1 }, 0)
/-- A disk, a journal, and an error, are handed back. -/
def RetDLE (w : World) (m : Mem) (r : Dk × Lg × Int) : Ending → World → Prop := Ret w m fun v m' => ∃ cs, v = .tuple #[.agg cs.toArray, .agg (lgV r.2.1).toArray, .int .i64 r.2.2] ∧ dkL.rd m' cs r.1
theorem need_parts {n : Nat} (h : ¬ 65536 < n) : ∃ p : Nat, needN n = p ∧ 1 ≤ p ∧ p ≤ 5959 ∧ n ≤ 11 * p ∧ (∀ i, i < p → 11 * i < n ∨ (n = 0 ∧ i = 0)) := by
  refine ⟨max ((n + 10) / 11) 1, ?_, ?_, ?_, ?_, ?_⟩
  · rw [(need_ok h).1]; omega
  · omega
  · omega
  · omega
  · intro i hi; omega
theorem ret_cells2 {P : Program} {X : List Nat} {w0 w : World} {m0 m : Mem} {es : List Ent} {fn : Func} {R : Ending → World → Prop} {a : Act} {p q u : Tmp} {ty tz : TypeId} {b c n k : Nat} {vs us : List Value} (h : fn.results = #[.cell p ty, .cell q tz, .tmp u]) (hp : a.tmps.getD p undef = .pointer (some ⟨b, 0, none⟩)) (hq : a.tmps.getD q undef = .pointer (some ⟨c, 0, none⟩)) (hS : St X w0 m0 w es m) (hM : Ent.box b vs ∈ es) (hN : Ent.box c us ∈ es) (hl : vs.length = n) (hk : us.length = k)
    (hn : ∃ d, P.underlying ty = some d ∧ d.isRow = true ∧ (P.info? ty).map (·.size) = some n) (hz : ∃ d, P.underlying tz = some d ∧ d.isRow = true ∧ (P.info? tz).map (·.size) = some k) (hd : a.defers = []) (hR : R (.returned (.tuple #[.agg vs.toArray, .agg us.toArray, a.tmps.getD u undef])) w) : bodyPost P fn R .ret a w := by
  obtain ⟨d, h1, h2, h3⟩ := hn
  obtain ⟨e, k1, k2, k3⟩ := hz
  have hb : BoxIn w b vs := (hS.has _ hM).1
  have hc : BoxIn w c us := (hS.has _ hN).1
  have hrun := run_loadVar_mid (P := P) w b 0 ty vs d (fun j v hj => by rw [Nat.zero_add]; exact (hb.get j v hj).1) h1 h2 (by rw [hl]; exact h3)
  have hrun2 := run_loadVar_mid (P := P) w c 0 tz us e (fun j v hj => by rw [Nat.zero_add]; exact (hc.get j v hj).1) k1 k2 (by rw [hk]; exact k3)
  have hp' : a.tmps[p]?.getD undef = .pointer (some ⟨b, 0, none⟩) := by simpa using hp
  have hq' : a.tmps[q]?.getD undef = .pointer (some ⟨c, 0, none⟩) := by simpa using hq
  refine bodyPost_ret_by ?_ hd hR
  simp [results, h, hp', hq', asAddr, hrun, hrun2]
end Go.Proofs.Ytnmgiiaejpaeeaa
/- Contract of journal.Append. -/
namespace Go.Proofs.Ytnmgiiaejpaeeaa
set_option linter.unusedVariables false
set_option linter.unusedSimpArgs false
open Go.RowKit Go.Shelf
theorem app_ways (d : Dk) (g : Lg) (n : Nat) : (¬ checkOK d ∧ app0 d g n = 1) ∨ (checkOK d ∧ ¬ lgOK g ∧ app0 d g n = 1) ∨ (checkOK d ∧ lgOK g ∧ 65536 < n ∧ app0 d g n = 3) ∨ (checkOK d ∧ lgOK g ∧ ¬ 65536 < n ∧ thereB d g = false ∧ app0 d g n = 1) ∨
    (checkOK d ∧ lgOK g ∧ ¬ 65536 < n ∧ thereB d g = true ∧ (g.size - g.pos < needN n ∨ g.n = 262144) ∧ app0 d g n = 7) ∨ (checkOK d ∧ lgOK g ∧ ¬ 65536 < n ∧ thereB d g = true ∧ ¬ (g.size - g.pos < needN n ∨ g.n = 262144) ∧ app0 d g n = 0) := by
  unfold app0
  by_cases h1 : checkOK d
  · by_cases h2 : lgOK g
    · by_cases h3 : 65536 < n
      · simp [h1, h2, h3]
      · cases h4 : thereB d g
        · simp [h1, h2, h3]
        · by_cases h5 : g.size - g.pos < needN n ∨ g.n = 262144 <;> simp [h1, h2, h3, h5]
    · simp [h1, h2]
  · simp [h1]
theorem appR_no {d : Dk} {g : Lg} {text : List Int} {e : Int} (h : app0 d g text.length = e) (h0 : e ≠ 0) : appR d g text = (dk0, lg0, e) := by
  unfold appR; rw [if_pos (by rw [h]; exact h0), h]
theorem app_close {w w' : World} {m m' : Mem} {es : List Ent} {d : Dk} {g : Lg} {text : List Int} {e : Int} (h : app0 d g text.length = e) (h0 : e ≠ 0) (hS : St [] w m w' es m') :
    RetDLE w m (appR d g text) (.returned (.tuple #[.agg ([.slice none 0 0, .slice none 0 0, .int .i64 0, .bool false] : List Value).toArray, .agg ([.int .i64 0, .int .i64 0, .int .i64 0, .int .i64 0, .int .i64 0] : List Value).toArray, .int .i64 e])) w' := by
  rw [appR_no h h0]
  exact ⟨_, m', rfl, ⟨_, rfl, dk0_rd m'⟩, hS.done⟩
set_option maxRecDepth 100000 in
set_option maxHeartbeats 8000000 in
theorem jappend_no (m : Mem) (w : World) (hm : m.In w) (cs : List Value) (d : Dk) (hd : dkL.rd m cs d) (b s g p n : Int) (vt : Value) (text : List Int) (ht : bytesL.rd m [vt] text) (h0 : app0 d ⟨b, s, g, p, n⟩ text.length ≠ 0) :
    Calls Try.prog 54 #[.agg cs.toArray, .agg ([.int .i64 b, .int .i64 s, .int .i64 g, .int .i64 p, .int .i64 n] : List Value).toArray, vt] w (RetDLE w m (appR d ⟨b, s, g, p, n⟩ text)) := by
  obtain ⟨p0, c0, q0, a0, rfl, A0⟩ := dkL_cells hd
  have A1 := Lib.hid ht
  obtain ⟨pt, ct, rfl, o1, o2, o3, o4⟩ := Lay.list_open ht
  have hlt : text.length ≤ 140737488355328 := by simpa [Lay.int, kBytes] using o3
  have hS := St.start hm
  clear hd ht o3 o4
  rcases app_ways d ⟨b, s, g, p, n⟩ text.length with ⟨h1, hE⟩ | ⟨h1, h2, hE⟩ | ⟨h1, h2, h3, hE⟩ | ⟨h1, h2, h3, h4, hE⟩ | ⟨h1, h2, h3, h4, h5, hE⟩ | ⟨h1, h2, h3, h4, h5, hE⟩
  case inr.inr.inr.inr.inr => exact absurd hE h0
  all_goals
    have HE := Lib.hid hE
    (first | have CE : Hid (checkE d = 0) := if_pos h1 | have CE : Hid (checkE d = 1) := if_neg h1)
    (first | have GE : Hid (lcheckE ⟨b, s, g, p, n⟩ = 0) := if_pos h2 | have GE : Hid (lcheckE ⟨b, s, g, p, n⟩ = 1) := if_neg h2 | skip)
    (try have HG := Lib.hid h2)
    (try obtain ⟨j1, j2, j3, j4, j5, j6, j7, j8, j9, j10⟩ := h2)
    (try simp only at j1 j2 j3 j4 j5 j6 j7 j8 j9 j10)
    (first | have NE : Hid (needE text.length = 3) := if_pos h3 | have NE : Hid (needE text.length = 0) := if_neg h3 | skip)
    (try have TB := Lib.hid h4)
    (try have FU := Lib.hid h5)
    clear hE h0
    go_enter Try.func54, Try.ntmps54
    go_wp2_with (first
    | ((with_reducible refine' Wl.out ?_; apply wl_box (ty := 44) (y := (.tmp 0)) hS); (· (first | (go_simp; done) | (go_simp; with_reducible rfl))); (· exact rfl); clear hS; intro w3 b3 hS)
    | ((with_reducible refine' Wl.out ?_; apply wl_box (ty := 70) (y := (.tmp 1)) hS); (· (first | (go_simp; done) | (go_simp; with_reducible rfl))); (· exact rfl); clear hS; intro w4 b4 hS)
    | ((with_reducible refine' Wl.out ?_; apply wl_alloc (ty := 44) (dst := some 6) hS (.agg #[.slice none 0 0, .slice none 0 0, .int .i64 0, .bool false]) [.slice none 0 0, .slice none 0 0, .int .i64 0, .bool false]); (· kernel_rfl); (· rfl); clear hS; intro w6 b6 hS)
    | ((with_reducible refine' Wl.out ?_; apply wl_alloc (ty := 70) (dst := some 7) hS (.agg #[.int .i64 0, .int .i64 0, .int .i64 0, .int .i64 0, .int .i64 0]) [.int .i64 0, .int .i64 0, .int .i64 0, .int .i64 0, .int .i64 0]); (· kernel_rfl); (· rfl); clear hS; intro w7 b7 hS)
    | ((with_reducible refine' Wl.out ?_; apply wl_alloc (ty := 118) (dst := some 12) hS (.agg #[.int .i64 0, .int .i64 0, .slice none 0 0]) [.int .i64 0, .int .i64 0, .slice none 0 0]); (· kernel_rfl); (· rfl); clear hS; intro w12 b12 hS)
    | ((with_reducible refine' Wl.out ?_; apply wl_load hS); (· (first | exact Try.underlying2 | exact Try.underlying3)); (· exact rfl); (· exact rfl); (· (first | (apply Find.box; (· (repeat constructor)); rfl) | exact Find.mem (by assumption) | (apply Find.row; (· (repeat constructor)); assumption))))
    | ((with_reducible refine' Wl.out ?_; apply wg_load hS); (· (first | exact Try.underlying2 | exact Try.underlying3)); (· exact rfl); (· (first | rfl | (go_simp; done))); (· exact rfl); (· (first | (apply Find.box; (· (repeat constructor)); rfl) | exact Find.mem (by assumption) | (apply Find.row; (· (repeat constructor)); assumption))))
    | ((with_reducible refine' Wl.out ?_; apply wl_loads hS); (· (first | exact rowT44 | exact rowT70 | exact rowT118)); (· exact rfl); (· (first | (apply Finds.box; (· (repeat constructor)); (· (repeat constructor)); done) | (refine Finds.mem2 (by assumption) ?_; first | rfl | assumption | (simp; done)) | (apply Finds.row; (· (repeat constructor)); (· assumption); (· rfl)))))
    | ((with_reducible refine' Wl.out ?_; apply wg_loads hS); (· (first | exact rowT44 | exact rowT70 | exact rowT118)); (· (first | rfl | (go_simp; done))); (· exact rfl); (· (first | (apply Finds.box; (· (repeat constructor)); (· (repeat constructor)); done) | (refine Finds.mem2 (by assumption) ?_; first | rfl | assumption | (simp; done)) | (apply Finds.row; (· (repeat constructor)); (· assumption); (· rfl)))))
    | ((with_reducible refine' Wl.out ?_); (with_reducible refine' wg_case ?_ ?_) <;> (intro hgW; (try (have hg2 := hgW; simp [go_sem] at hg2)); (first | (exfalso; assumption) | ((with_reducible refine' Wl.out ?_; apply wl_unwanted); (· exact hgW)) | ((with_reducible refine' Wl.out ?_; apply wg_load hS); (· (first | exact Try.underlying2 | exact Try.underlying3)); (· exact rfl); (· exact hgW); (· exact rfl); (· (first | (apply Find.box; (· (repeat constructor)); rfl) | exact Find.mem (by assumption) | (apply Find.row; (· (repeat constructor)); assumption)))) | ((with_reducible refine' Wl.out ?_; apply wg_loads hS); (· (first | exact rowT44 | exact rowT70 | exact rowT118)); (· exact hgW); (· exact rfl); (· (first | (apply Finds.box; (· (repeat constructor)); (· (repeat constructor)); done) | (refine Finds.mem2 (by assumption) ?_; first | rfl | assumption | (simp; done)) | (apply Finds.row; (· (repeat constructor)); (· assumption); (· rfl)))))); clear hgW))
    | ((with_reducible refine' Wl.out ?_; apply wl_store hS); (· (first | exact rowT2 | exact rowT3)); (· exact rfl); (· (first | (go_simp; done) | (go_simp; with_reducible rfl))); (· (first | rfl | assumption | (simp [Value.oneCell']; done))); (· (repeat constructor)); (· (repeat constructor)); (· (repeat constructor)); clear hS; intro ws hS)
    | ((with_reducible refine' Wl.out ?_; apply wl_storeR hS); (· (first | exact rowT2 | exact rowT3)); (· exact rfl); (· (first | (go_simp; done) | (go_simp; with_reducible rfl))); (· (first | rfl | assumption | (simp [Value.oneCell']; done))); (· (repeat constructor)); (· (first | assumption | omega | (simp; omega))); clear hS; intro ws hS)
    | ((with_reducible refine' Wl.out ?_; apply wl_stores hS); (· (first | exact rowT44 | exact rowT70 | exact rowT118)); (· exact rfl); (· exact rfl); (· exact rfl); (· (first | assumption | (simp [Value.oneCell']; done))); (· (repeat constructor)); (· (repeat constructor)); (· (repeat constructor)); clear hS; intro ws hS)
    | (go_at_call 40; (fail_if_success (clear Mk16)); refine (letInt (check_c _ _ hS.inw _ _ (by first | exact A0.out | exact A1.out | exact R96.out | exact R107.out | exact dkL_dry A0.out | exact dkL_dry A1.out | exact dkL_dry R96.out | exact dkL_dry R107.out | exact Lay.nil_rd _ _))).mono ?_; rintro e' w16 ⟨_, m16, rfl, ⟨E16, HE16, rfl⟩, hk⟩; replace hS := hS.call hk; (try replace A0 := Lib.hid (Lay.mono _ hk.le A0.out)); (try replace A1 := Lib.hid (Lay.mono _ hk.le A1.out)); (try replace R96 := Lib.hid (Lay.mono _ hk.le R96.out)); (try replace R107 := Lib.hid (Lay.mono _ hk.le R107.out)); clear hk; replace HE16 := Lib.hid (HE16.out.trans CE.out); obtain rfl := HE16.out; have Mk16 := True.intro)
    | (go_at_call 63; (fail_if_success (clear Mk20)); refine (letInt (jcheck_v _ _ hS.inw _ _ _ _ _)).mono ?_; rintro e' w20 ⟨_, m20, rfl, ⟨E20, HE20, rfl⟩, hk⟩; replace hS := hS.call hk; (try replace A0 := Lib.hid (Lay.mono _ hk.le A0.out)); (try replace A1 := Lib.hid (Lay.mono _ hk.le A1.out)); (try replace R96 := Lib.hid (Lay.mono _ hk.le R96.out)); (try replace R107 := Lib.hid (Lay.mono _ hk.le R107.out)); clear hk; replace HE20 := Lib.hid (HE20.out.trans GE.out); obtain rfl := HE20.out; have Mk20 := True.intro)
    | (go_at_call 58; (fail_if_success (clear Mk27)); refine (letII (jneed_c _ _ hS.inw _ _ _ (by omega))).mono ?_; rintro e' w27 ⟨_, m27, rfl, ⟨N27, E27, HN27, HE27, rfl⟩, hk⟩; replace hS := hS.call hk; (try replace A0 := Lib.hid (Lay.mono _ hk.le A0.out)); (try replace A1 := Lib.hid (Lay.mono _ hk.le A1.out)); (try replace R96 := Lib.hid (Lay.mono _ hk.le R96.out)); (try replace R107 := Lib.hid (Lay.mono _ hk.le R107.out)); clear hk; replace HE27 := Lib.hid (HE27.out.trans NE.out); obtain rfl := HE27.out; have Mk27 := True.intro)
    | (go_at_call 87; (fail_if_success (clear Mk39)); refine (letB (there_c _ _ hS.inw _ _ (by first | exact A0.out | exact A1.out | exact R96.out | exact R107.out | exact dkL_dry A0.out | exact dkL_dry A1.out | exact dkL_dry R96.out | exact dkL_dry R107.out | exact Lay.nil_rd _ _) _ _ _ _ _)).mono ?_; rintro e' w39 ⟨_, m39, rfl, ⟨B39, HB39, rfl⟩, hk⟩; replace hS := hS.call hk; (try replace A0 := Lib.hid (Lay.mono _ hk.le A0.out)); (try replace A1 := Lib.hid (Lay.mono _ hk.le A1.out)); (try replace R96 := Lib.hid (Lay.mono _ hk.le R96.out)); (try replace R107 := Lib.hid (Lay.mono _ hk.le R107.out)); clear hk; replace HB39 := Lib.hid (HB39.out.trans TB.out); obtain rfl := HB39.out; have Mk39 := True.intro))
    all_goals first
      | (refine ret_cells2 (n := 4) (k := 5) rfl rfl rfl hS (by (repeat constructor)) (by (repeat constructor)) rfl rfl dkRow lgRow rfl ?_
         exact app_close HE.out (by decide) hS)
      | (exfalso
         have hf := FU.out
         rw [← HN27.out] at hf
         have hq : ¬ n = 262144 := by
           have hz : (n == 262144) = false := And.right ‹N27 ≤ s - p ∧ (n == 262144) = false›
           simpa using hz
         exact hq (hf.resolve_left (by omega)))
/-- Where all may be: the parts are written one behind the other. -/
theorem appR_yes {d : Dk} {g : Lg} {text : List Int} (h : app0 d g text.length = 0) : appR d g text = (let r := appGo g text (needN text.length).toNat (needN text.length).toNat 0 d; if r.2 ≠ 0 then (r.1, lg0, r.2) else if flushE r.1 ≠ 0 then (flushD r.1, lg0, flushE r.1) else (flushD r.1, { g with pos := g.pos + needN text.length, n := g.n + 1 }, 0)) := by
  unfold appR; rw [if_neg (by rw [h]; decide)]
theorem app_zero {d : Dk} {g : Lg} {n : Nat} (h : app0 d g n = 0) : checkOK d ∧ lgOK g ∧ ¬ 65536 < n ∧ thereB d g = true ∧ ¬ (g.size - g.pos < needN n ∨ g.n = 262144) := by
  rcases app_ways d g n with h' | h' | h' | h' | h' | h'
  · rw [h'.2] at h; cases h
  · rw [h'.2.2] at h; cases h
  · rw [h'.2.2.2] at h; cases h
  · rw [h'.2.2.2.2] at h; cases h
  · rw [h'.2.2.2.2.2] at h; cases h
  · exact ⟨h'.1, h'.2.1, h'.2.2.1, h'.2.2.2.1, h'.2.2.2.2.1⟩
end Go.Proofs.Ytnmgiiaejpaeeaa
/- Contract of journal.Append where it may be. -/
namespace Go.Proofs.Ytnmgiiaejpaeeaa
set_option linter.unusedVariables false
set_option linter.unusedSimpArgs false
open Go.RowKit Go.Shelf
theorem appGo_step {g : Lg} {text : List Int} {parts n i : Nat} {d D : Dk} {e : Int} (h : i < n) (hD : D = writeD d (g.base + g.pos + i) (partB g i parts (chunkOf text i))) (he : e = writeE d (g.base + g.pos + i) (partB g i parts (chunkOf text i))) :
    (e = 0 → appGo g text parts (n - i) i d = appGo g text parts (n - (i + 1)) (i + 1) D) ∧ (e ≠ 0 → appGo g text parts (n - i) i d = (D, e)) := by
  rw [show n - i = (n - (i + 1)) + 1 by omega]
  subst hD he
  exact ⟨fun h => by rw [appGo, if_pos h], fun h => by rw [appGo, if_neg h]⟩
theorem app_end1 {d D : Dk} {g : Lg} {text : List Int} {P : Nat} {e : Int} (h : app0 d g text.length = 0) (hP : needN text.length = P) (hR : appGo g text P P 0 d = (D, e)) (he : e ≠ 0) : appR d g text = (D, lg0, e) := by
  rw [appR_yes h, hP, Int.toNat_natCast, hR]; simp only; rw [if_pos he]
theorem app_end2 {d D : Dk} {g : Lg} {text : List Int} {P : Nat} (h : app0 d g text.length = 0) (hP : needN text.length = P) (hR : appGo g text P P 0 d = (D, 0)) (he : flushE D ≠ 0) : appR d g text = (flushD D, lg0, flushE D) := by
  rw [appR_yes h, hP, Int.toNat_natCast, hR]; simp only; rw [if_neg (by decide), if_pos he]
theorem app_end3 {d D : Dk} {g : Lg} {text : List Int} {P : Nat} (h : app0 d g text.length = 0) (hP : needN text.length = P) (hR : appGo g text P P 0 d = (D, 0)) (he : flushE D = 0) : appR d g text = (flushD D, { g with pos := g.pos + P, n := g.n + 1 }, 0) := by
  rw [appR_yes h, hP, Int.toNat_natCast, hR]; simp only; rw [if_neg (by decide), if_neg (by rw [he]; decide)]
set_option maxRecDepth 100000 in
set_option maxHeartbeats 8000000 in
theorem jappend_yes (m : Mem) (w : World) (hm : m.In w) (cs : List Value) (d : Dk) (hd : dkL.rd m cs d) (b s g p n : Int) (vt : Value) (text : List Int) (ht : bytesL.rd m [vt] text) (h0 : app0 d ⟨b, s, g, p, n⟩ text.length = 0) (hne : 0 < text.length) :
    Calls Try.prog 54 #[.agg cs.toArray, .agg ([.int .i64 b, .int .i64 s, .int .i64 g, .int .i64 p, .int .i64 n] : List Value).toArray, vt] w (RetDLE w m (appR d ⟨b, s, g, p, n⟩ text)) := by
  obtain ⟨p0, c0, q0, a0, rfl, A0⟩ := dkL_cells hd
  have A1 := Lib.hid ht
  obtain ⟨pt, ct, rfl, o1, o2, o3, o4⟩ := Lay.list_open ht
  obtain ⟨b0, o0, rfl, _⟩ := o4 hne
  have hS := St.start hm
  obtain ⟨h1, h2, h3, h4, h5⟩ := app_zero h0
  obtain ⟨P, hP, P1, P2, P3, P4⟩ := need_parts h3
  have HP := Lib.hid hP
  have HE := Lib.hid h0
  have HPI := Lib.hid P4
  have CE : Hid (checkE d = 0) := if_pos h1
  have GE : Hid (lcheckE ⟨b, s, g, p, n⟩ = 0) := if_pos h2
  have HG := Lib.hid h2
  obtain ⟨j1, j2, j3, j4, j5, j6, j7, j8, j9, j10⟩ := h2
  simp only at j1 j2 j3 j4 j5 j6 j7 j8 j9 j10 h5
  rw [hP] at h5
  have NE : Hid (needE text.length = 0) := if_neg h3
  have TB := Lib.hid h4
  have h6 : (P : Int) ≤ s - p := by omega
  have h7 : (n == 262144) = false := by simp; omega
  simp only [maxLen] at o2
  clear hd ht o3 o4 h0 hP h4 h5 P4
  go_enter Try.func54, Try.ntmps54
  go_wp2_with (first
    | ((with_reducible refine' Wl.out ?_; apply wl_box (ty := 44) (y := (.tmp 0)) hS); (· (first | (go_simp; done) | (go_simp; with_reducible rfl))); (· exact rfl); clear hS; intro w3 b3 hS)
    | ((with_reducible refine' Wl.out ?_; apply wl_box (ty := 70) (y := (.tmp 1)) hS); (· (first | (go_simp; done) | (go_simp; with_reducible rfl))); (· exact rfl); clear hS; intro w4 b4 hS)
    | ((with_reducible refine' Wl.out ?_; apply wl_alloc (ty := 44) (dst := some 6) hS (.agg #[.slice none 0 0, .slice none 0 0, .int .i64 0, .bool false]) [.slice none 0 0, .slice none 0 0, .int .i64 0, .bool false]); (· kernel_rfl); (· rfl); clear hS; intro w6 b6 hS)
    | ((with_reducible refine' Wl.out ?_; apply wl_alloc (ty := 70) (dst := some 7) hS (.agg #[.int .i64 0, .int .i64 0, .int .i64 0, .int .i64 0, .int .i64 0]) [.int .i64 0, .int .i64 0, .int .i64 0, .int .i64 0, .int .i64 0]); (· kernel_rfl); (· rfl); clear hS; intro w7 b7 hS)
    | ((with_reducible refine' Wl.out ?_; apply wl_alloc (ty := 118) (dst := some 12) hS (.agg #[.int .i64 0, .int .i64 0, .slice none 0 0]) [.int .i64 0, .int .i64 0, .slice none 0 0]); (· kernel_rfl); (· rfl); clear hS; intro w12 b12 hS)
    | ((with_reducible refine' Wl.out ?_; apply wl_load hS); (· (first | exact Try.underlying2 | exact Try.underlying3)); (· exact rfl); (· exact rfl); (· (first | (apply Find.box; (· (repeat constructor)); rfl) | exact Find.mem (by assumption) | (apply Find.row; (· (repeat constructor)); assumption))))
    | ((with_reducible refine' Wl.out ?_; apply wg_load hS); (· (first | exact Try.underlying2 | exact Try.underlying3)); (· exact rfl); (· (first | rfl | (go_simp; done))); (· exact rfl); (· (first | (apply Find.box; (· (repeat constructor)); rfl) | exact Find.mem (by assumption) | (apply Find.row; (· (repeat constructor)); assumption))))
    | ((with_reducible refine' Wl.out ?_; apply wl_loads hS); (· (first | exact rowT44 | exact rowT70 | exact rowT118)); (· exact rfl); (· (first | (apply Finds.box; (· (repeat constructor)); (· (repeat constructor)); done) | (refine Finds.mem2 (by assumption) ?_; first | rfl | assumption | (simp; done)) | (apply Finds.row; (· (repeat constructor)); (· assumption); (· rfl)))))
    | ((with_reducible refine' Wl.out ?_; apply wg_loads hS); (· (first | exact rowT44 | exact rowT70 | exact rowT118)); (· (first | rfl | (go_simp; done))); (· exact rfl); (· (first | (apply Finds.box; (· (repeat constructor)); (· (repeat constructor)); done) | (refine Finds.mem2 (by assumption) ?_; first | rfl | assumption | (simp; done)) | (apply Finds.row; (· (repeat constructor)); (· assumption); (· rfl)))))
    | ((with_reducible refine' Wl.out ?_); (with_reducible refine' wg_case ?_ ?_) <;> (intro hgW; (try (have hg2 := hgW; simp [go_sem] at hg2)); (first | (exfalso; assumption) | ((with_reducible refine' Wl.out ?_; apply wl_unwanted); (· exact hgW)) | ((with_reducible refine' Wl.out ?_; apply wg_load hS); (· (first | exact Try.underlying2 | exact Try.underlying3)); (· exact rfl); (· exact hgW); (· exact rfl); (· (first | (apply Find.box; (· (repeat constructor)); rfl) | exact Find.mem (by assumption) | (apply Find.row; (· (repeat constructor)); assumption)))) | ((with_reducible refine' Wl.out ?_; apply wg_loads hS); (· (first | exact rowT44 | exact rowT70 | exact rowT118)); (· exact hgW); (· exact rfl); (· (first | (apply Finds.box; (· (repeat constructor)); (· (repeat constructor)); done) | (refine Finds.mem2 (by assumption) ?_; first | rfl | assumption | (simp; done)) | (apply Finds.row; (· (repeat constructor)); (· assumption); (· rfl)))))); clear hgW))
    | ((with_reducible refine' Wl.out ?_; apply wl_store hS); (· (first | exact rowT2 | exact rowT3)); (· exact rfl); (· (first | (go_simp; done) | (go_simp; with_reducible rfl))); (· (first | rfl | assumption | (simp [Value.oneCell']; done))); (· (repeat constructor)); (· (repeat constructor)); (· (repeat constructor)); clear hS; intro ws hS)
    | ((with_reducible refine' Wl.out ?_; apply wl_storeR hS); (· (first | exact rowT2 | exact rowT3)); (· exact rfl); (· (first | (go_simp; done) | (go_simp; with_reducible rfl))); (· (first | rfl | assumption | (simp [Value.oneCell']; done))); (· (repeat constructor)); (· (first | assumption | omega | (simp; omega))); clear hS; intro ws hS)
    | ((with_reducible refine' Wl.out ?_; apply wl_stores hS); (· (first | exact rowT44 | exact rowT70 | exact rowT118)); (· exact rfl); (· exact rfl); (· exact rfl); (· (first | assumption | (simp [Value.oneCell']; done))); (· (repeat constructor)); (· (repeat constructor)); (· (repeat constructor)); clear hS; intro ws hS)
    | (go_at_call 40; (fail_if_success (clear Mk16)); refine (letInt (check_c _ _ hS.inw _ _ (by first | exact A0.out | exact A1.out | exact A2.out | exact A3.out | exact A4.out | exact R96.out | exact R107.out | exact dkL_dry A0.out | exact dkL_dry A1.out | exact dkL_dry A2.out | exact dkL_dry A3.out | exact dkL_dry A4.out | exact dkL_dry R96.out | exact dkL_dry R107.out | exact Lay.nil_rd _ _))).mono ?_; rintro e' w16 ⟨_, m16, rfl, ⟨E16, HE16, rfl⟩, hk⟩; replace hS := hS.call hk; (try replace A0 := Lib.hid (Lay.mono _ hk.le A0.out)); (try replace A1 := Lib.hid (Lay.mono _ hk.le A1.out)); (try replace A2 := Lib.hid (Lay.mono _ hk.le A2.out)); (try replace A3 := Lib.hid (Lay.mono _ hk.le A3.out)); (try replace A4 := Lib.hid (Lay.mono _ hk.le A4.out)); (try replace R96 := Lib.hid (Lay.mono _ hk.le R96.out)); (try replace R107 := Lib.hid (Lay.mono _ hk.le R107.out)); clear hk; replace HE16 := Lib.hid (HE16.out.trans CE.out); obtain rfl := HE16.out; have Mk16 := True.intro)
    | (go_at_call 63; (fail_if_success (clear Mk20)); refine (letInt (jcheck_v _ _ hS.inw _ _ _ _ _)).mono ?_; rintro e' w20 ⟨_, m20, rfl, ⟨E20, HE20, rfl⟩, hk⟩; replace hS := hS.call hk; (try replace A0 := Lib.hid (Lay.mono _ hk.le A0.out)); (try replace A1 := Lib.hid (Lay.mono _ hk.le A1.out)); (try replace A2 := Lib.hid (Lay.mono _ hk.le A2.out)); (try replace A3 := Lib.hid (Lay.mono _ hk.le A3.out)); (try replace A4 := Lib.hid (Lay.mono _ hk.le A4.out)); (try replace R96 := Lib.hid (Lay.mono _ hk.le R96.out)); (try replace R107 := Lib.hid (Lay.mono _ hk.le R107.out)); clear hk; replace HE20 := Lib.hid (HE20.out.trans GE.out); obtain rfl := HE20.out; have Mk20 := True.intro)
    | (go_at_call 58; (fail_if_success (clear Mk27)); refine (letII (jneed_c _ _ hS.inw _ _ _ (by omega))).mono ?_; rintro e' w27 ⟨_, m27, rfl, ⟨N27, E27, HN27, HE27, rfl⟩, hk⟩; replace hS := hS.call hk; (try replace A0 := Lib.hid (Lay.mono _ hk.le A0.out)); (try replace A1 := Lib.hid (Lay.mono _ hk.le A1.out)); (try replace A2 := Lib.hid (Lay.mono _ hk.le A2.out)); (try replace A3 := Lib.hid (Lay.mono _ hk.le A3.out)); (try replace A4 := Lib.hid (Lay.mono _ hk.le A4.out)); (try replace R96 := Lib.hid (Lay.mono _ hk.le R96.out)); (try replace R107 := Lib.hid (Lay.mono _ hk.le R107.out)); clear hk; replace HE27 := Lib.hid (HE27.out.trans NE.out); obtain rfl := HE27.out; replace HN27 := Lib.hid (HN27.out.trans HP.out); obtain rfl := HN27.out; have Mk27 := True.intro)
    | (go_at_call 87; (fail_if_success (clear Mk39)); refine (letB (there_c _ _ hS.inw _ _ (by first | exact A0.out | exact A1.out | exact A2.out | exact A3.out | exact A4.out | exact R96.out | exact R107.out | exact dkL_dry A0.out | exact dkL_dry A1.out | exact dkL_dry A2.out | exact dkL_dry A3.out | exact dkL_dry A4.out | exact dkL_dry R96.out | exact dkL_dry R107.out | exact Lay.nil_rd _ _) _ _ _ _ _)).mono ?_; rintro e' w39 ⟨_, m39, rfl, ⟨B39, HB39, rfl⟩, hk⟩; replace hS := hS.call hk; (try replace A0 := Lib.hid (Lay.mono _ hk.le A0.out)); (try replace A1 := Lib.hid (Lay.mono _ hk.le A1.out)); (try replace A2 := Lib.hid (Lay.mono _ hk.le A2.out)); (try replace A3 := Lib.hid (Lay.mono _ hk.le A3.out)); (try replace A4 := Lib.hid (Lay.mono _ hk.le A4.out)); (try replace R96 := Lib.hid (Lay.mono _ hk.le R96.out)); (try replace R107 := Lib.hid (Lay.mono _ hk.le R107.out)); clear hk; replace HB39 := Lib.hid (HB39.out.trans TB.out); obtain rfl := HB39.out; have Mk39 := True.intro))
  obtain ⟨R, hR⟩ : ∃ R, R = appGo ⟨b, s, g, p, n⟩ text P P 0 d := ⟨_, rfl⟩
  have HR := Lib.hid hR
  clear hR
  go_loopw [59] (fun i wr => ∃ (k : Nat) (D : Dk) (pd qd : Option Addr) (cd ad : Nat) (m' : Mem), k ≤ P ∧ i = .int .i64 k ∧ Hid (appGo ⟨b, s, g, p, n⟩ text P (P - k) k D = R) ∧ Hid (dkL.rd m' [.slice pd D.dry.length cd, .slice qd D.wet.length ad, .int .i64 D.fuse, .bool D.dead] D) ∧ Hid (bytesL.rd m' [.slice (some ⟨b0, o0, none⟩) text.length ct] text) ∧
    St [] w m wr [.box b7 [.int .i64 0, .int .i64 0, .int .i64 0, .int .i64 0, .int .i64 0], .box b6 [.slice none 0 0, .slice none 0 0, .int .i64 0, .bool false], .box b4 [.int .i64 b, .int .i64 s, .int .i64 g, .int .i64 p, .int .i64 n], .box b3 [.slice pd D.dry.length cd, .slice qd D.wet.length ad, .int .i64 D.fuse, .bool D.dead]] m') (fun i _ => P - (intOf i).toNat)
  case atStart => exact ⟨0, d, _, _, _, _, _, Nat.zero_le _, rfl, HR.out.symm, A0, A1, hS⟩
  case round =>
    clear hS A0 A1
    obtain ⟨k, D, pd, qd, cd, ad, m', hk, rfl, HGO, A2, A3, hS⟩ := hrel
    by_cases hlt : k < P
    · have hik : 11 * k < text.length := (HPI.out k hlt).resolve_right (fun h => by omega)
      have hpart := rdL_part A3.out (k * 11) (min (k * 11 + 11) text.length) (by omega) (by omega)
      rw [show (Lay.int .u8).n = 1 from rfl, Nat.mul_one, Nat.mul_comm k 11, chunk_min, Nat.mul_comm 11 k] at hpart
      have hcl := chunk_len text k
      obtain ⟨own, hown⟩ : ∃ own, own = chunkOf text k := ⟨_, rfl⟩
      rw [← hown] at hpart hcl
      obtain ⟨hi2, hh⟩ : ∃ u, u = min (k * 11 + 11) text.length := ⟨_, rfl⟩
      have hle2 : hi2 - k * 11 = own.length := by omega
      rw [← hh] at hpart
      rw [hle2] at hpart
      have A4 := Lib.hid hpart
      have hol : own.length ≤ 11 := by omega
      have y1 : ¬ ct = k * 11 := by omega
      have hmin : min (((k : Int) + 1) * 11) (text.length : Int) = (hi2 : Int) := by omega
      have HOWN := Lib.hid hown
      have u1 : k * 11 ≤ hi2 := by omega
      have u2 : hi2 ≤ text.length := by omega
      clear hpart hcl hown hh
      go_wp2_with (first
    | ((with_reducible refine' Wl.out ?_; apply wl_box (ty := 44) (y := (.tmp 0)) hS); (· (first | (go_simp; done) | (go_simp; with_reducible rfl))); (· exact rfl); clear hS; intro w3 b3 hS)
    | ((with_reducible refine' Wl.out ?_; apply wl_box (ty := 70) (y := (.tmp 1)) hS); (· (first | (go_simp; done) | (go_simp; with_reducible rfl))); (· exact rfl); clear hS; intro w4 b4 hS)
    | ((with_reducible refine' Wl.out ?_; apply wl_alloc (ty := 44) (dst := some 6) hS (.agg #[.slice none 0 0, .slice none 0 0, .int .i64 0, .bool false]) [.slice none 0 0, .slice none 0 0, .int .i64 0, .bool false]); (· kernel_rfl); (· rfl); clear hS; intro w6 b6 hS)
    | ((with_reducible refine' Wl.out ?_; apply wl_alloc (ty := 70) (dst := some 7) hS (.agg #[.int .i64 0, .int .i64 0, .int .i64 0, .int .i64 0, .int .i64 0]) [.int .i64 0, .int .i64 0, .int .i64 0, .int .i64 0, .int .i64 0]); (· kernel_rfl); (· rfl); clear hS; intro w7 b7 hS)
    | ((with_reducible refine' Wl.out ?_; apply wl_alloc (ty := 118) (dst := some 12) hS (.agg #[.int .i64 0, .int .i64 0, .slice none 0 0]) [.int .i64 0, .int .i64 0, .slice none 0 0]); (· kernel_rfl); (· rfl); clear hS; intro w12 b12 hS)
    | ((with_reducible refine' Wl.out ?_; apply wl_load hS); (· (first | exact Try.underlying2 | exact Try.underlying3)); (· exact rfl); (· exact rfl); (· (first | (apply Find.box; (· (repeat constructor)); rfl) | exact Find.mem (by assumption) | (apply Find.row; (· (repeat constructor)); assumption))))
    | ((with_reducible refine' Wl.out ?_; apply wg_load hS); (· (first | exact Try.underlying2 | exact Try.underlying3)); (· exact rfl); (· (first | rfl | (go_simp; done))); (· exact rfl); (· (first | (apply Find.box; (· (repeat constructor)); rfl) | exact Find.mem (by assumption) | (apply Find.row; (· (repeat constructor)); assumption))))
    | ((with_reducible refine' Wl.out ?_; apply wl_loads hS); (· (first | exact rowT44 | exact rowT70 | exact rowT118)); (· exact rfl); (· (first | (apply Finds.box; (· (repeat constructor)); (· (repeat constructor)); done) | (refine Finds.mem2 (by assumption) ?_; first | rfl | assumption | (simp; done)) | (apply Finds.row; (· (repeat constructor)); (· assumption); (· rfl)))))
    | ((with_reducible refine' Wl.out ?_; apply wg_loads hS); (· (first | exact rowT44 | exact rowT70 | exact rowT118)); (· (first | rfl | (go_simp; done))); (· exact rfl); (· (first | (apply Finds.box; (· (repeat constructor)); (· (repeat constructor)); done) | (refine Finds.mem2 (by assumption) ?_; first | rfl | assumption | (simp; done)) | (apply Finds.row; (· (repeat constructor)); (· assumption); (· rfl)))))
    | ((with_reducible refine' Wl.out ?_); (with_reducible refine' wg_case ?_ ?_) <;> (intro hgW; (try (have hg2 := hgW; simp [go_sem] at hg2)); (first | (exfalso; assumption) | ((with_reducible refine' Wl.out ?_; apply wl_unwanted); (· exact hgW)) | ((with_reducible refine' Wl.out ?_; apply wg_load hS); (· (first | exact Try.underlying2 | exact Try.underlying3)); (· exact rfl); (· exact hgW); (· exact rfl); (· (first | (apply Find.box; (· (repeat constructor)); rfl) | exact Find.mem (by assumption) | (apply Find.row; (· (repeat constructor)); assumption)))) | ((with_reducible refine' Wl.out ?_; apply wg_loads hS); (· (first | exact rowT44 | exact rowT70 | exact rowT118)); (· exact hgW); (· exact rfl); (· (first | (apply Finds.box; (· (repeat constructor)); (· (repeat constructor)); done) | (refine Finds.mem2 (by assumption) ?_; first | rfl | assumption | (simp; done)) | (apply Finds.row; (· (repeat constructor)); (· assumption); (· rfl)))))); clear hgW))
    | ((with_reducible refine' Wl.out ?_; apply wl_store hS); (· (first | exact rowT2 | exact rowT3)); (· exact rfl); (· (first | (go_simp; done) | (go_simp; with_reducible rfl))); (· (first | rfl | assumption | (simp [Value.oneCell']; done))); (· (repeat constructor)); (· (repeat constructor)); (· (repeat constructor)); clear hS; intro ws hS)
    | ((with_reducible refine' Wl.out ?_; apply wl_storeR hS); (· (first | exact rowT2 | exact rowT3)); (· exact rfl); (· (first | (go_simp; done) | (go_simp; with_reducible rfl))); (· (first | rfl | assumption | (simp [Value.oneCell']; done))); (· (repeat constructor)); (· (first | assumption | omega | (simp; omega))); clear hS; intro ws hS)
    | ((with_reducible refine' Wl.out ?_; apply wl_stores hS); (· (first | exact rowT44 | exact rowT70 | exact rowT118)); (· exact rfl); (· exact rfl); (· exact rfl); (· (first | assumption | (simp [Value.oneCell']; done))); (· (repeat constructor)); (· (repeat constructor)); (· (repeat constructor)); clear hS; intro ws hS)
        | (go_at_call 88; refine (letBE (pseal_c _ _ hS.inw k P _ own A4.out _ _ _ _ _ HG.out hol (by omega) (by omega))).mono ?_; rintro e' w78 ⟨_, m78, rfl, ⟨p78, c78, Y78, E78, HY78, HE78, rfl, R78, C78⟩, hk78⟩; replace hS := hS.call hk78; have hk := hk78; (try replace A2 := Lib.hid (Lay.mono _ hk.le A2.out)); (try replace A3 := Lib.hid (Lay.mono _ hk.le A3.out)); (try replace A4 := Lib.hid (Lay.mono _ hk.le A4.out)); clear hk hk78; obtain rfl := HE78.out)
        | (go_at_call 35; refine (letDE (write_c _ _ hS.inw _ _ A2.out _ (inK64 (by omega) (by omega)) _ _ R78.out)).mono ?_; rintro e' w96 ⟨_, m96, rfl, ⟨p96, c96, q96, a96, D96, E96, HD96, HE96, rfl, R96⟩, hk96⟩; replace hS := hS.call hk96; have hk := hk96; (try replace A2 := Lib.hid (Lay.mono _ hk.le A2.out)); (try replace A3 := Lib.hid (Lay.mono _ hk.le A3.out)); (try replace A4 := Lib.hid (Lay.mono _ hk.le A4.out)); clear hk hk96))
      · have hst := appGo_step (g := ⟨b, s, g, p, n⟩) (text := text) (parts := P) (n := P) hlt (HD96.out.trans (by rw [HY78.out, HOWN.out])) (HE96.out.trans (by rw [HY78.out, HOWN.out]))
        have he : E96 ≠ 0 := by simp_all
        have hR2 : R = (D96, E96) := HGO.out.symm.trans (hst.2 he)
        refine ret_cells2 (n := 4) (k := 5) rfl rfl rfl hS (by (repeat constructor)) (by (repeat constructor)) rfl rfl dkRow lgRow rfl ?_
        rw [app_end1 HE.out HP.out (HR.out.symm.trans hR2) he]
        exact ⟨_, _, rfl, ⟨_, rfl, R96.out⟩, hS.done⟩
      · have hst := appGo_step (g := ⟨b, s, g, p, n⟩) (text := text) (parts := P) (n := P) hlt (HD96.out.trans (by rw [HY78.out, HOWN.out])) (HE96.out.trans (by rw [HY78.out, HOWN.out]))
        have he : E96 = 0 := by simp_all
        have HGO2 := Lib.hid ((hst.1 he).symm.trans HGO.out)
        clear hst
        go_roundw
        case rel => exact ⟨k + 1, D96, _, _, _, _, _, hlt, by go_num, HGO2, R96, A3, hS.forget (x := .box b12 _) (by (repeat constructor))⟩
        case measure => simp [intOf]; omega
    · obtain rfl : k = P := by omega
      have hR2 : R = (D, 0) := by have := HGO.out; rw [Nat.sub_self] at this; exact this.symm
      have HR2 := Lib.hid hR2
      clear hR2 HGO
      go_wp2_with (first
    | ((with_reducible refine' Wl.out ?_; apply wl_box (ty := 44) (y := (.tmp 0)) hS); (· (first | (go_simp; done) | (go_simp; with_reducible rfl))); (· exact rfl); clear hS; intro w3 b3 hS)
    | ((with_reducible refine' Wl.out ?_; apply wl_box (ty := 70) (y := (.tmp 1)) hS); (· (first | (go_simp; done) | (go_simp; with_reducible rfl))); (· exact rfl); clear hS; intro w4 b4 hS)
    | ((with_reducible refine' Wl.out ?_; apply wl_alloc (ty := 44) (dst := some 6) hS (.agg #[.slice none 0 0, .slice none 0 0, .int .i64 0, .bool false]) [.slice none 0 0, .slice none 0 0, .int .i64 0, .bool false]); (· kernel_rfl); (· rfl); clear hS; intro w6 b6 hS)
    | ((with_reducible refine' Wl.out ?_; apply wl_alloc (ty := 70) (dst := some 7) hS (.agg #[.int .i64 0, .int .i64 0, .int .i64 0, .int .i64 0, .int .i64 0]) [.int .i64 0, .int .i64 0, .int .i64 0, .int .i64 0, .int .i64 0]); (· kernel_rfl); (· rfl); clear hS; intro w7 b7 hS)
    | ((with_reducible refine' Wl.out ?_; apply wl_alloc (ty := 118) (dst := some 12) hS (.agg #[.int .i64 0, .int .i64 0, .slice none 0 0]) [.int .i64 0, .int .i64 0, .slice none 0 0]); (· kernel_rfl); (· rfl); clear hS; intro w12 b12 hS)
    | ((with_reducible refine' Wl.out ?_; apply wl_load hS); (· (first | exact Try.underlying2 | exact Try.underlying3)); (· exact rfl); (· exact rfl); (· (first | (apply Find.box; (· (repeat constructor)); rfl) | exact Find.mem (by assumption) | (apply Find.row; (· (repeat constructor)); assumption))))
    | ((with_reducible refine' Wl.out ?_; apply wg_load hS); (· (first | exact Try.underlying2 | exact Try.underlying3)); (· exact rfl); (· (first | rfl | (go_simp; done))); (· exact rfl); (· (first | (apply Find.box; (· (repeat constructor)); rfl) | exact Find.mem (by assumption) | (apply Find.row; (· (repeat constructor)); assumption))))
    | ((with_reducible refine' Wl.out ?_; apply wl_loads hS); (· (first | exact rowT44 | exact rowT70 | exact rowT118)); (· exact rfl); (· (first | (apply Finds.box; (· (repeat constructor)); (· (repeat constructor)); done) | (refine Finds.mem2 (by assumption) ?_; first | rfl | assumption | (simp; done)) | (apply Finds.row; (· (repeat constructor)); (· assumption); (· rfl)))))
    | ((with_reducible refine' Wl.out ?_; apply wg_loads hS); (· (first | exact rowT44 | exact rowT70 | exact rowT118)); (· (first | rfl | (go_simp; done))); (· exact rfl); (· (first | (apply Finds.box; (· (repeat constructor)); (· (repeat constructor)); done) | (refine Finds.mem2 (by assumption) ?_; first | rfl | assumption | (simp; done)) | (apply Finds.row; (· (repeat constructor)); (· assumption); (· rfl)))))
    | ((with_reducible refine' Wl.out ?_); (with_reducible refine' wg_case ?_ ?_) <;> (intro hgW; (try (have hg2 := hgW; simp [go_sem] at hg2)); (first | (exfalso; assumption) | ((with_reducible refine' Wl.out ?_; apply wl_unwanted); (· exact hgW)) | ((with_reducible refine' Wl.out ?_; apply wg_load hS); (· (first | exact Try.underlying2 | exact Try.underlying3)); (· exact rfl); (· exact hgW); (· exact rfl); (· (first | (apply Find.box; (· (repeat constructor)); rfl) | exact Find.mem (by assumption) | (apply Find.row; (· (repeat constructor)); assumption)))) | ((with_reducible refine' Wl.out ?_; apply wg_loads hS); (· (first | exact rowT44 | exact rowT70 | exact rowT118)); (· exact hgW); (· exact rfl); (· (first | (apply Finds.box; (· (repeat constructor)); (· (repeat constructor)); done) | (refine Finds.mem2 (by assumption) ?_; first | rfl | assumption | (simp; done)) | (apply Finds.row; (· (repeat constructor)); (· assumption); (· rfl)))))); clear hgW))
    | ((with_reducible refine' Wl.out ?_; apply wl_store hS); (· (first | exact rowT2 | exact rowT3)); (· exact rfl); (· (first | (go_simp; done) | (go_simp; with_reducible rfl))); (· (first | rfl | assumption | (simp [Value.oneCell']; done))); (· (repeat constructor)); (· (repeat constructor)); (· (repeat constructor)); clear hS; intro ws hS)
    | ((with_reducible refine' Wl.out ?_; apply wl_storeR hS); (· (first | exact rowT2 | exact rowT3)); (· exact rfl); (· (first | (go_simp; done) | (go_simp; with_reducible rfl))); (· (first | rfl | assumption | (simp [Value.oneCell']; done))); (· (repeat constructor)); (· (first | assumption | omega | (simp; omega))); clear hS; intro ws hS)
    | ((with_reducible refine' Wl.out ?_; apply wl_stores hS); (· (first | exact rowT44 | exact rowT70 | exact rowT118)); (· exact rfl); (· exact rfl); (· exact rfl); (· (first | assumption | (simp [Value.oneCell']; done))); (· (repeat constructor)); (· (repeat constructor)); (· (repeat constructor)); clear hS; intro ws hS)
    | (go_at_call 37; (fail_if_success (clear Mk107)); refine (letDE (flush_c _ _ hS.inw _ _ (by first | exact A0.out | exact A1.out | exact A2.out | exact A3.out | exact A4.out | exact R96.out | exact R107.out | exact dkL_dry A0.out | exact dkL_dry A1.out | exact dkL_dry A2.out | exact dkL_dry A3.out | exact dkL_dry A4.out | exact dkL_dry R96.out | exact dkL_dry R107.out | exact Lay.nil_rd _ _))).mono ?_; rintro e' w107 ⟨_, m107, rfl, ⟨p107, c107, q107, a107, D107, E107, HD107, HE107, rfl, R107⟩, hk⟩; replace hS := hS.call hk; (try replace A0 := Lib.hid (Lay.mono _ hk.le A0.out)); (try replace A1 := Lib.hid (Lay.mono _ hk.le A1.out)); (try replace A2 := Lib.hid (Lay.mono _ hk.le A2.out)); (try replace A3 := Lib.hid (Lay.mono _ hk.le A3.out)); (try replace A4 := Lib.hid (Lay.mono _ hk.le A4.out)); (try replace R96 := Lib.hid (Lay.mono _ hk.le R96.out)); (try replace R107 := Lib.hid (Lay.mono _ hk.le R107.out)); clear hk; have Mk107 := True.intro))
      · have he : E107 ≠ 0 := by simp_all
        refine ret_cells2 (n := 4) (k := 5) rfl rfl rfl hS (by (repeat constructor)) (by (repeat constructor)) rfl rfl dkRow lgRow rfl ?_
        rw [app_end2 HE.out HP.out (HR.out.symm.trans HR2.out) (by rw [← HE107.out]; exact he), ← HD107.out, ← HE107.out]
        exact ⟨_, _, rfl, ⟨_, rfl, R107.out⟩, hS.done⟩
      have he : E107 = 0 := by simp_all
      have HE0 := Lib.hid he
      clear he
      replace hS := hS.drew
      refine startL (S := Sx _ [(b3, _), (b4, _)]) (by kernel_rfl) ((hS.sx0.cons hS (by (repeat constructor))).cons hS (by (repeat constructor))) (fun _ _ _ _ => trivial) (fun hHeld => ?_)
      refine takeN 0 rfl (by kernel_rfl) (yield_loads rfl rowT44 rfl (by (first | (apply FindsX.box; (· (repeat constructor)); (· (repeat constructor)); done) | (refine FindsX.mem (by assumption) ?_; first | rfl | assumption | (simp; done))))) ?_
      try simp only [Act.put, nz1, nz2, nz3]
      refine takeN 1 rfl (by kernel_rfl) (yield_loads rfl rowT70 rfl (by (first | (apply FindsX.box; (· (repeat constructor)); (· (repeat constructor)); done) | (refine FindsX.mem (by assumption) ?_; first | rfl | assumption | (simp; done))))) ?_
      try simp only [Act.put, nz1, nz2, nz3]
      refine wpAnyH_ready (rs := [2]) (by kernel_rfl) (by simp) ?_
      refine consL 2 rfl (fun K hK => ?_) AllReadyH.nil
      (with_reducible apply s_stores hS); (· exact rowT44); (· exact rfl); (· exact rfl); (· exact rfl); (· (first | assumption | (simp [Value.oneCell']; done))); (· (repeat constructor)); (· (repeat constructor)); (· (repeat constructor)); clear hS; intro ws hS
      refine hK.out _ _ (by first | exact ((hS.sx0.cons hS (by (repeat constructor))).cons hS (by (repeat constructor))) | exact Sx.le (by assumption) ((hS.sx0.cons hS (by (repeat constructor))).cons hS (by (repeat constructor)))) (fun hHeld => ?_)
      clear hK K
      try simp only [Act.put, nz1, nz2, nz3]
      refine wpAnyH_ready (rs := [3]) (by kernel_rfl) (by simp) ?_
      refine consL 3 rfl (fun K hK => ?_) AllReadyH.nil
      (with_reducible apply s_stores hS); (· exact rowT70); (· exact rfl); (· exact rfl); (· exact rfl); (· (first | assumption | (simp [Value.oneCell']; done))); (· (repeat constructor)); (· (repeat constructor)); (· (repeat constructor)); clear hS; intro ws hS
      refine hK.out _ _ (by first | exact ((hS.sx0.cons hS (by (repeat constructor))).cons hS (by (repeat constructor))) | exact Sx.le (by assumption) ((hS.sx0.cons hS (by (repeat constructor))).cons hS (by (repeat constructor)))) (fun hHeld => ?_)
      clear hK K
      try simp only [Act.put, nz1, nz2, nz3]
      focus (refine takeN 4 (v := ?_) rfl (by kernel_rfl) ?_ ?_; rotate_left; focus (intro w hSw; clear hSw; go_simp; try with_reducible rfl))
      try simp only [Act.put, nz1, nz2, nz3]
      refine wpAnyH_done (by kernel_rfl) ?_ _
      refine NoPanic.normal ?_
      all_goals
        go_wp2_with (first
    | ((with_reducible refine' Wl.out ?_; apply wl_box (ty := 44) (y := (.tmp 0)) hS); (· (first | (go_simp; done) | (go_simp; with_reducible rfl))); (· exact rfl); clear hS; intro w3 b3 hS)
    | ((with_reducible refine' Wl.out ?_; apply wl_box (ty := 70) (y := (.tmp 1)) hS); (· (first | (go_simp; done) | (go_simp; with_reducible rfl))); (· exact rfl); clear hS; intro w4 b4 hS)
    | ((with_reducible refine' Wl.out ?_; apply wl_alloc (ty := 44) (dst := some 6) hS (.agg #[.slice none 0 0, .slice none 0 0, .int .i64 0, .bool false]) [.slice none 0 0, .slice none 0 0, .int .i64 0, .bool false]); (· kernel_rfl); (· rfl); clear hS; intro w6 b6 hS)
    | ((with_reducible refine' Wl.out ?_; apply wl_alloc (ty := 70) (dst := some 7) hS (.agg #[.int .i64 0, .int .i64 0, .int .i64 0, .int .i64 0, .int .i64 0]) [.int .i64 0, .int .i64 0, .int .i64 0, .int .i64 0, .int .i64 0]); (· kernel_rfl); (· rfl); clear hS; intro w7 b7 hS)
    | ((with_reducible refine' Wl.out ?_; apply wl_alloc (ty := 118) (dst := some 12) hS (.agg #[.int .i64 0, .int .i64 0, .slice none 0 0]) [.int .i64 0, .int .i64 0, .slice none 0 0]); (· kernel_rfl); (· rfl); clear hS; intro w12 b12 hS)
    | ((with_reducible refine' Wl.out ?_; apply wl_load hS); (· (first | exact Try.underlying2 | exact Try.underlying3)); (· exact rfl); (· exact rfl); (· (first | (apply Find.box; (· (repeat constructor)); rfl) | exact Find.mem (by assumption) | (apply Find.row; (· (repeat constructor)); assumption))))
    | ((with_reducible refine' Wl.out ?_; apply wg_load hS); (· (first | exact Try.underlying2 | exact Try.underlying3)); (· exact rfl); (· (first | rfl | (go_simp; done))); (· exact rfl); (· (first | (apply Find.box; (· (repeat constructor)); rfl) | exact Find.mem (by assumption) | (apply Find.row; (· (repeat constructor)); assumption))))
    | ((with_reducible refine' Wl.out ?_; apply wl_loads hS); (· (first | exact rowT44 | exact rowT70 | exact rowT118)); (· exact rfl); (· (first | (apply Finds.box; (· (repeat constructor)); (· (repeat constructor)); done) | (refine Finds.mem2 (by assumption) ?_; first | rfl | assumption | (simp; done)) | (apply Finds.row; (· (repeat constructor)); (· assumption); (· rfl)))))
    | ((with_reducible refine' Wl.out ?_; apply wg_loads hS); (· (first | exact rowT44 | exact rowT70 | exact rowT118)); (· (first | rfl | (go_simp; done))); (· exact rfl); (· (first | (apply Finds.box; (· (repeat constructor)); (· (repeat constructor)); done) | (refine Finds.mem2 (by assumption) ?_; first | rfl | assumption | (simp; done)) | (apply Finds.row; (· (repeat constructor)); (· assumption); (· rfl)))))
    | ((with_reducible refine' Wl.out ?_); (with_reducible refine' wg_case ?_ ?_) <;> (intro hgW; (try (have hg2 := hgW; simp [go_sem] at hg2)); (first | (exfalso; assumption) | ((with_reducible refine' Wl.out ?_; apply wl_unwanted); (· exact hgW)) | ((with_reducible refine' Wl.out ?_; apply wg_load hS); (· (first | exact Try.underlying2 | exact Try.underlying3)); (· exact rfl); (· exact hgW); (· exact rfl); (· (first | (apply Find.box; (· (repeat constructor)); rfl) | exact Find.mem (by assumption) | (apply Find.row; (· (repeat constructor)); assumption)))) | ((with_reducible refine' Wl.out ?_; apply wg_loads hS); (· (first | exact rowT44 | exact rowT70 | exact rowT118)); (· exact hgW); (· exact rfl); (· (first | (apply Finds.box; (· (repeat constructor)); (· (repeat constructor)); done) | (refine Finds.mem2 (by assumption) ?_; first | rfl | assumption | (simp; done)) | (apply Finds.row; (· (repeat constructor)); (· assumption); (· rfl)))))); clear hgW))
    | ((with_reducible refine' Wl.out ?_; apply wl_store hS); (· (first | exact rowT2 | exact rowT3)); (· exact rfl); (· (first | (go_simp; done) | (go_simp; with_reducible rfl))); (· (first | rfl | assumption | (simp [Value.oneCell']; done))); (· (repeat constructor)); (· (repeat constructor)); (· (repeat constructor)); clear hS; intro ws hS)
    | ((with_reducible refine' Wl.out ?_; apply wl_storeR hS); (· (first | exact rowT2 | exact rowT3)); (· exact rfl); (· (first | (go_simp; done) | (go_simp; with_reducible rfl))); (· (first | rfl | assumption | (simp [Value.oneCell']; done))); (· (repeat constructor)); (· (first | assumption | omega | (simp; omega))); clear hS; intro ws hS)
    | ((with_reducible refine' Wl.out ?_; apply wl_stores hS); (· (first | exact rowT44 | exact rowT70 | exact rowT118)); (· exact rfl); (· exact rfl); (· exact rfl); (· (first | assumption | (simp [Value.oneCell']; done))); (· (repeat constructor)); (· (repeat constructor)); (· (repeat constructor)); clear hS; intro ws hS))
        have he := HE0.out
        refine ret_cells2 (n := 4) (k := 5) rfl rfl rfl hS (by (repeat constructor)) (by (repeat constructor)) rfl rfl dkRow lgRow rfl ?_
        rw [app_end3 HE.out HP.out (HR.out.symm.trans HR2.out) (by rw [← HE107.out]; exact he), ← HD107.out]
        exact ⟨_, _, rfl, ⟨_, rfl, R107.out⟩, hS.done⟩
end Go.Proofs.Ytnmgiiaejpaeeaa
/- Contract of journal.Append for the empty text. -/
namespace Go.Proofs.Ytnmgiiaejpaeeaa
set_option linter.unusedVariables false
set_option linter.unusedSimpArgs false
open Go.RowKit Go.Shelf
set_option maxRecDepth 100000 in
set_option maxHeartbeats 8000000 in
theorem jappend_0 (m : Mem) (w : World) (hm : m.In w) (cs : List Value) (d : Dk) (hd : dkL.rd m cs d) (b s g p n : Int) (vt : Value) (ht : bytesL.rd m [vt] []) (h0 : app0 d ⟨b, s, g, p, n⟩ 0 = 0) :
    Calls Try.prog 54 #[.agg cs.toArray, .agg ([.int .i64 b, .int .i64 s, .int .i64 g, .int .i64 p, .int .i64 n] : List Value).toArray, vt] w (RetDLE w m (appR d ⟨b, s, g, p, n⟩ [])) := by
  obtain ⟨p0, c0, q0, a0, rfl, A0⟩ := dkL_cells hd
  have A1 := Lib.hid ht
  obtain ⟨pt, ct, rfl, o1, o2, o3, o4⟩ := Lay.list_open ht
  rw [show ([] : List Int).length = 0 from rfl] at A1 ⊢
  have hS := St.start hm
  obtain ⟨h1, h2, h3, h4, h5⟩ := app_zero h0
  have HP : Hid (needN 0 = ((1 : Nat) : Int)) := by show _ = _; decide
  have hP := HP.out
  have HE := Lib.hid h0
  have CE : Hid (checkE d = 0) := if_pos h1
  have GE : Hid (lcheckE ⟨b, s, g, p, n⟩ = 0) := if_pos h2
  have HG := Lib.hid h2
  obtain ⟨j1, j2, j3, j4, j5, j6, j7, j8, j9, j10⟩ := h2
  simp only at j1 j2 j3 j4 j5 j6 j7 j8 j9 j10 h5
  rw [hP] at h5
  have NE : Hid (needE 0 = 0) := if_neg h3
  have TB := Lib.hid h4
  have h6 : 1 ≤ s - p := by omega
  have h7 : (n == 262144) = false := by simp; omega
  simp only [maxLen] at o2
  have hm0 : min (11 : Int) 0 = 0 := by decide
  have hc0 : ct ≤ maxLen := by simp only [maxLen]; omega
  have HR0 : ∀ (m' : Mem) (q : Option Addr) (c : Nat), c ≤ maxLen → bytesL.rd m' [.slice q 0 c] [] := fun m' q c hc => ⟨q, c, rfl, Nat.zero_le _, hc, by simp, Row.nil _ _ _⟩
  have HR1 := Lib.hid HR0
  have hway : (pt = none ∧ ct = 0) ∨ (pt = none ∧ ct ≠ 0) ∨ ((∃ a, pt = some a) ∧ ct = 0) ∨ ((∃ a, pt = some a) ∧ ct ≠ 0) := by
    cases pt <;> by_cases h : ct = 0 <;> simp [h]
  clear hd ht o1 o3 o4 h0 hP h4 h5 HR0 A1
  rcases hway with ⟨rfl, rfl⟩ | ⟨rfl, y1⟩ | ⟨⟨pa, rfl⟩, rfl⟩ | ⟨⟨pa, rfl⟩, y1⟩
  all_goals
    go_enter Try.func54, Try.ntmps54
    go_wp2_with (first
    | ((with_reducible refine' Wl.out ?_; apply wl_box (ty := 44) (y := (.tmp 0)) hS); (· (first | (go_simp; done) | (go_simp; with_reducible rfl))); (· exact rfl); clear hS; intro w3 b3 hS)
    | ((with_reducible refine' Wl.out ?_; apply wl_box (ty := 70) (y := (.tmp 1)) hS); (· (first | (go_simp; done) | (go_simp; with_reducible rfl))); (· exact rfl); clear hS; intro w4 b4 hS)
    | ((with_reducible refine' Wl.out ?_; apply wl_alloc (ty := 44) (dst := some 6) hS (.agg #[.slice none 0 0, .slice none 0 0, .int .i64 0, .bool false]) [.slice none 0 0, .slice none 0 0, .int .i64 0, .bool false]); (· kernel_rfl); (· rfl); clear hS; intro w6 b6 hS)
    | ((with_reducible refine' Wl.out ?_; apply wl_alloc (ty := 70) (dst := some 7) hS (.agg #[.int .i64 0, .int .i64 0, .int .i64 0, .int .i64 0, .int .i64 0]) [.int .i64 0, .int .i64 0, .int .i64 0, .int .i64 0, .int .i64 0]); (· kernel_rfl); (· rfl); clear hS; intro w7 b7 hS)
    | ((with_reducible refine' Wl.out ?_; apply wl_alloc (ty := 118) (dst := some 12) hS (.agg #[.int .i64 0, .int .i64 0, .slice none 0 0]) [.int .i64 0, .int .i64 0, .slice none 0 0]); (· kernel_rfl); (· rfl); clear hS; intro w12 b12 hS)
    | ((with_reducible refine' Wl.out ?_; apply wl_load hS); (· (first | exact Try.underlying2 | exact Try.underlying3)); (· exact rfl); (· exact rfl); (· (first | (apply Find.box; (· (repeat constructor)); rfl) | exact Find.mem (by assumption) | (apply Find.row; (· (repeat constructor)); assumption))))
    | ((with_reducible refine' Wl.out ?_; apply wg_load hS); (· (first | exact Try.underlying2 | exact Try.underlying3)); (· exact rfl); (· (first | rfl | (go_simp; done))); (· exact rfl); (· (first | (apply Find.box; (· (repeat constructor)); rfl) | exact Find.mem (by assumption) | (apply Find.row; (· (repeat constructor)); assumption))))
    | ((with_reducible refine' Wl.out ?_; apply wl_loads hS); (· (first | exact rowT44 | exact rowT70 | exact rowT118)); (· exact rfl); (· (first | (apply Finds.box; (· (repeat constructor)); (· (repeat constructor)); done) | (refine Finds.mem2 (by assumption) ?_; first | rfl | assumption | (simp; done)) | (apply Finds.row; (· (repeat constructor)); (· assumption); (· rfl)))))
    | ((with_reducible refine' Wl.out ?_; apply wg_loads hS); (· (first | exact rowT44 | exact rowT70 | exact rowT118)); (· (first | rfl | (go_simp; done))); (· exact rfl); (· (first | (apply Finds.box; (· (repeat constructor)); (· (repeat constructor)); done) | (refine Finds.mem2 (by assumption) ?_; first | rfl | assumption | (simp; done)) | (apply Finds.row; (· (repeat constructor)); (· assumption); (· rfl)))))
    | ((with_reducible refine' Wl.out ?_); (with_reducible refine' wg_case ?_ ?_) <;> (intro hgW; (try (have hg2 := hgW; simp [go_sem] at hg2)); (first | (exfalso; assumption) | ((with_reducible refine' Wl.out ?_; apply wl_unwanted); (· exact hgW)) | ((with_reducible refine' Wl.out ?_; apply wg_load hS); (· (first | exact Try.underlying2 | exact Try.underlying3)); (· exact rfl); (· exact hgW); (· exact rfl); (· (first | (apply Find.box; (· (repeat constructor)); rfl) | exact Find.mem (by assumption) | (apply Find.row; (· (repeat constructor)); assumption)))) | ((with_reducible refine' Wl.out ?_; apply wg_loads hS); (· (first | exact rowT44 | exact rowT70 | exact rowT118)); (· exact hgW); (· exact rfl); (· (first | (apply Finds.box; (· (repeat constructor)); (· (repeat constructor)); done) | (refine Finds.mem2 (by assumption) ?_; first | rfl | assumption | (simp; done)) | (apply Finds.row; (· (repeat constructor)); (· assumption); (· rfl)))))); clear hgW))
    | ((with_reducible refine' Wl.out ?_; apply wl_store hS); (· (first | exact rowT2 | exact rowT3)); (· exact rfl); (· (first | (go_simp; done) | (go_simp; with_reducible rfl))); (· (first | rfl | assumption | (simp [Value.oneCell']; done))); (· (repeat constructor)); (· (repeat constructor)); (· (repeat constructor)); clear hS; intro ws hS)
    | ((with_reducible refine' Wl.out ?_; apply wl_storeR hS); (· (first | exact rowT2 | exact rowT3)); (· exact rfl); (· (first | (go_simp; done) | (go_simp; with_reducible rfl))); (· (first | rfl | assumption | (simp [Value.oneCell']; done))); (· (repeat constructor)); (· (first | assumption | omega | (simp; omega))); clear hS; intro ws hS)
    | ((with_reducible refine' Wl.out ?_; apply wl_stores hS); (· (first | exact rowT44 | exact rowT70 | exact rowT118)); (· exact rfl); (· exact rfl); (· exact rfl); (· (first | assumption | (simp [Value.oneCell']; done))); (· (repeat constructor)); (· (repeat constructor)); (· (repeat constructor)); clear hS; intro ws hS)
    | (go_at_call 40; (fail_if_success (clear Mk16)); refine (letInt (check_c _ _ hS.inw _ _ (by first | exact A0.out | exact A1.out | exact A2.out | exact R96.out | exact R107.out | exact dkL_dry A0.out | exact dkL_dry A1.out | exact dkL_dry A2.out | exact dkL_dry R96.out | exact dkL_dry R107.out | exact Lay.nil_rd _ _))).mono ?_; rintro e' w16 ⟨_, m16, rfl, ⟨E16, HE16, rfl⟩, hk⟩; replace hS := hS.call hk; (try replace A0 := Lib.hid (Lay.mono _ hk.le A0.out)); (try replace A1 := Lib.hid (Lay.mono _ hk.le A1.out)); (try replace A2 := Lib.hid (Lay.mono _ hk.le A2.out)); (try replace R96 := Lib.hid (Lay.mono _ hk.le R96.out)); (try replace R107 := Lib.hid (Lay.mono _ hk.le R107.out)); clear hk; replace HE16 := Lib.hid (HE16.out.trans CE.out); obtain rfl := HE16.out; have Mk16 := True.intro)
    | (go_at_call 63; (fail_if_success (clear Mk20)); refine (letInt (jcheck_v _ _ hS.inw _ _ _ _ _)).mono ?_; rintro e' w20 ⟨_, m20, rfl, ⟨E20, HE20, rfl⟩, hk⟩; replace hS := hS.call hk; (try replace A0 := Lib.hid (Lay.mono _ hk.le A0.out)); (try replace A1 := Lib.hid (Lay.mono _ hk.le A1.out)); (try replace A2 := Lib.hid (Lay.mono _ hk.le A2.out)); (try replace R96 := Lib.hid (Lay.mono _ hk.le R96.out)); (try replace R107 := Lib.hid (Lay.mono _ hk.le R107.out)); clear hk; replace HE20 := Lib.hid (HE20.out.trans GE.out); obtain rfl := HE20.out; have Mk20 := True.intro)
    | (go_at_call 58; (fail_if_success (clear Mk27)); refine (letII (jneed_c _ _ hS.inw _ _ _ (by omega))).mono ?_; rintro e' w27 ⟨_, m27, rfl, ⟨N27, E27, HN27, HE27, rfl⟩, hk⟩; replace hS := hS.call hk; (try replace A0 := Lib.hid (Lay.mono _ hk.le A0.out)); (try replace A1 := Lib.hid (Lay.mono _ hk.le A1.out)); (try replace A2 := Lib.hid (Lay.mono _ hk.le A2.out)); (try replace R96 := Lib.hid (Lay.mono _ hk.le R96.out)); (try replace R107 := Lib.hid (Lay.mono _ hk.le R107.out)); clear hk; replace HE27 := Lib.hid (HE27.out.trans NE.out); obtain rfl := HE27.out; replace HN27 := Lib.hid (HN27.out.trans HP.out); obtain rfl := HN27.out; have Mk27 := True.intro)
    | (go_at_call 87; (fail_if_success (clear Mk39)); refine (letB (there_c _ _ hS.inw _ _ (by first | exact A0.out | exact A1.out | exact A2.out | exact R96.out | exact R107.out | exact dkL_dry A0.out | exact dkL_dry A1.out | exact dkL_dry A2.out | exact dkL_dry R96.out | exact dkL_dry R107.out | exact Lay.nil_rd _ _) _ _ _ _ _)).mono ?_; rintro e' w39 ⟨_, m39, rfl, ⟨B39, HB39, rfl⟩, hk⟩; replace hS := hS.call hk; (try replace A0 := Lib.hid (Lay.mono _ hk.le A0.out)); (try replace A1 := Lib.hid (Lay.mono _ hk.le A1.out)); (try replace A2 := Lib.hid (Lay.mono _ hk.le A2.out)); (try replace R96 := Lib.hid (Lay.mono _ hk.le R96.out)); (try replace R107 := Lib.hid (Lay.mono _ hk.le R107.out)); clear hk; replace HB39 := Lib.hid (HB39.out.trans TB.out); obtain rfl := HB39.out; have Mk39 := True.intro))
    obtain ⟨R, hR⟩ : ∃ R, R = appGo ⟨b, s, g, p, n⟩ [] 1 1 0 d := ⟨_, rfl⟩
    have HR := Lib.hid hR
    clear hR
    go_loopw [59] (fun i wr => ∃ (k : Nat) (D : Dk) (pd qd : Option Addr) (cd ad : Nat) (m' : Mem), k ≤ 1 ∧ i = .int .i64 k ∧ Hid (appGo ⟨b, s, g, p, n⟩ [] 1 (1 - k) k D = R) ∧ Hid (dkL.rd m' [.slice pd D.dry.length cd, .slice qd D.wet.length ad, .int .i64 D.fuse, .bool D.dead] D) ∧
      St [] w m wr [.box b7 [.int .i64 0, .int .i64 0, .int .i64 0, .int .i64 0, .int .i64 0], .box b6 [.slice none 0 0, .slice none 0 0, .int .i64 0, .bool false], .box b4 [.int .i64 b, .int .i64 s, .int .i64 g, .int .i64 p, .int .i64 n], .box b3 [.slice pd D.dry.length cd, .slice qd D.wet.length ad, .int .i64 D.fuse, .bool D.dead]] m') (fun i _ => 1 - (intOf i).toNat)
    case atStart => exact ⟨0, d, _, _, _, _, _, Nat.zero_le _, rfl, HR.out.symm, A0, hS⟩
    case round =>
      clear hS A0
      obtain ⟨k, D, pd, qd, cd, ad, m', hk, rfl, HGO, A2, hS⟩ := hrel
      by_cases hlt : k < 1
      · obtain rfl : k = 0 := by omega
        go_wp2_with (first
    | ((with_reducible refine' Wl.out ?_; apply wl_box (ty := 44) (y := (.tmp 0)) hS); (· (first | (go_simp; done) | (go_simp; with_reducible rfl))); (· exact rfl); clear hS; intro w3 b3 hS)
    | ((with_reducible refine' Wl.out ?_; apply wl_box (ty := 70) (y := (.tmp 1)) hS); (· (first | (go_simp; done) | (go_simp; with_reducible rfl))); (· exact rfl); clear hS; intro w4 b4 hS)
    | ((with_reducible refine' Wl.out ?_; apply wl_alloc (ty := 44) (dst := some 6) hS (.agg #[.slice none 0 0, .slice none 0 0, .int .i64 0, .bool false]) [.slice none 0 0, .slice none 0 0, .int .i64 0, .bool false]); (· kernel_rfl); (· rfl); clear hS; intro w6 b6 hS)
    | ((with_reducible refine' Wl.out ?_; apply wl_alloc (ty := 70) (dst := some 7) hS (.agg #[.int .i64 0, .int .i64 0, .int .i64 0, .int .i64 0, .int .i64 0]) [.int .i64 0, .int .i64 0, .int .i64 0, .int .i64 0, .int .i64 0]); (· kernel_rfl); (· rfl); clear hS; intro w7 b7 hS)
    | ((with_reducible refine' Wl.out ?_; apply wl_alloc (ty := 118) (dst := some 12) hS (.agg #[.int .i64 0, .int .i64 0, .slice none 0 0]) [.int .i64 0, .int .i64 0, .slice none 0 0]); (· kernel_rfl); (· rfl); clear hS; intro w12 b12 hS)
    | ((with_reducible refine' Wl.out ?_; apply wl_load hS); (· (first | exact Try.underlying2 | exact Try.underlying3)); (· exact rfl); (· exact rfl); (· (first | (apply Find.box; (· (repeat constructor)); rfl) | exact Find.mem (by assumption) | (apply Find.row; (· (repeat constructor)); assumption))))
    | ((with_reducible refine' Wl.out ?_; apply wg_load hS); (· (first | exact Try.underlying2 | exact Try.underlying3)); (· exact rfl); (· (first | rfl | (go_simp; done))); (· exact rfl); (· (first | (apply Find.box; (· (repeat constructor)); rfl) | exact Find.mem (by assumption) | (apply Find.row; (· (repeat constructor)); assumption))))
    | ((with_reducible refine' Wl.out ?_; apply wl_loads hS); (· (first | exact rowT44 | exact rowT70 | exact rowT118)); (· exact rfl); (· (first | (apply Finds.box; (· (repeat constructor)); (· (repeat constructor)); done) | (refine Finds.mem2 (by assumption) ?_; first | rfl | assumption | (simp; done)) | (apply Finds.row; (· (repeat constructor)); (· assumption); (· rfl)))))
    | ((with_reducible refine' Wl.out ?_; apply wg_loads hS); (· (first | exact rowT44 | exact rowT70 | exact rowT118)); (· (first | rfl | (go_simp; done))); (· exact rfl); (· (first | (apply Finds.box; (· (repeat constructor)); (· (repeat constructor)); done) | (refine Finds.mem2 (by assumption) ?_; first | rfl | assumption | (simp; done)) | (apply Finds.row; (· (repeat constructor)); (· assumption); (· rfl)))))
    | ((with_reducible refine' Wl.out ?_); (with_reducible refine' wg_case ?_ ?_) <;> (intro hgW; (try (have hg2 := hgW; simp [go_sem] at hg2)); (first | (exfalso; assumption) | ((with_reducible refine' Wl.out ?_; apply wl_unwanted); (· exact hgW)) | ((with_reducible refine' Wl.out ?_; apply wg_load hS); (· (first | exact Try.underlying2 | exact Try.underlying3)); (· exact rfl); (· exact hgW); (· exact rfl); (· (first | (apply Find.box; (· (repeat constructor)); rfl) | exact Find.mem (by assumption) | (apply Find.row; (· (repeat constructor)); assumption)))) | ((with_reducible refine' Wl.out ?_; apply wg_loads hS); (· (first | exact rowT44 | exact rowT70 | exact rowT118)); (· exact hgW); (· exact rfl); (· (first | (apply Finds.box; (· (repeat constructor)); (· (repeat constructor)); done) | (refine Finds.mem2 (by assumption) ?_; first | rfl | assumption | (simp; done)) | (apply Finds.row; (· (repeat constructor)); (· assumption); (· rfl)))))); clear hgW))
    | ((with_reducible refine' Wl.out ?_; apply wl_store hS); (· (first | exact rowT2 | exact rowT3)); (· exact rfl); (· (first | (go_simp; done) | (go_simp; with_reducible rfl))); (· (first | rfl | assumption | (simp [Value.oneCell']; done))); (· (repeat constructor)); (· (repeat constructor)); (· (repeat constructor)); clear hS; intro ws hS)
    | ((with_reducible refine' Wl.out ?_; apply wl_storeR hS); (· (first | exact rowT2 | exact rowT3)); (· exact rfl); (· (first | (go_simp; done) | (go_simp; with_reducible rfl))); (· (first | rfl | assumption | (simp [Value.oneCell']; done))); (· (repeat constructor)); (· (first | assumption | omega | (simp; omega))); clear hS; intro ws hS)
    | ((with_reducible refine' Wl.out ?_; apply wl_stores hS); (· (first | exact rowT44 | exact rowT70 | exact rowT118)); (· exact rfl); (· exact rfl); (· exact rfl); (· (first | assumption | (simp [Value.oneCell']; done))); (· (repeat constructor)); (· (repeat constructor)); (· (repeat constructor)); clear hS; intro ws hS)
          | (go_at_call 88; refine (letBE (pseal_c _ _ hS.inw 0 1 _ [] (HR1.out _ _ _ (by first | decide | omega)) _ _ _ _ _ HG.out (by decide) (by decide) (by decide))).mono ?_; rintro e' w78 ⟨_, m78, rfl, ⟨p78, c78, Y78, E78, HY78, HE78, rfl, R78, C78⟩, hk78⟩; replace hS := hS.call hk78; have hk := hk78; (try replace A2 := Lib.hid (Lay.mono _ hk.le A2.out)); clear hk hk78; obtain rfl := HE78.out)
          | (go_at_call 35; refine (letDE (write_c _ _ hS.inw _ _ A2.out _ (inK64 (by omega) (by omega)) _ _ R78.out)).mono ?_; rintro e' w96 ⟨_, m96, rfl, ⟨p96, c96, q96, a96, D96, E96, HD96, HE96, rfl, R96⟩, hk96⟩; replace hS := hS.call hk96; have hk := hk96; (try replace A2 := Lib.hid (Lay.mono _ hk.le A2.out)); clear hk hk96))
        · have hst := appGo_step (g := ⟨b, s, g, p, n⟩) (text := []) (parts := 1) (n := 1) (i := 0) (d := D) (D := D96) (e := E96) (by decide) (HD96.out.trans (by rw [HY78.out]; simp [chunkOf])) (HE96.out.trans (by rw [HY78.out]; simp [chunkOf]))
          have he : E96 ≠ 0 := by simp_all
          have hR2 : R = (D96, E96) := HGO.out.symm.trans (hst.2 he)
          refine ret_cells2 (n := 4) (k := 5) rfl rfl rfl hS (by (repeat constructor)) (by (repeat constructor)) rfl rfl dkRow lgRow rfl ?_
          rw [app_end1 (text := []) (P := 1) HE.out HP.out (HR.out.symm.trans hR2) he]
          exact ⟨_, _, rfl, ⟨_, rfl, R96.out⟩, hS.done⟩
        · have hst := appGo_step (g := ⟨b, s, g, p, n⟩) (text := []) (parts := 1) (n := 1) (i := 0) (d := D) (D := D96) (e := E96) (by decide) (HD96.out.trans (by rw [HY78.out]; simp [chunkOf])) (HE96.out.trans (by rw [HY78.out]; simp [chunkOf]))
          have he : E96 = 0 := by simp_all
          have HGO2 := Lib.hid ((hst.1 he).symm.trans HGO.out)
          clear hst
          go_roundw
          case rel => exact ⟨1, D96, _, _, _, _, _, Nat.le_refl _, rfl, HGO2, R96, hS.forget (x := .box b12 _) (by (repeat constructor))⟩
          case measure => first | (simp [intOf]; done) | (simp [intOf]; omega)
      · obtain rfl : k = 1 := by omega
        have hR2 : R = (D, 0) := by have := HGO.out; rw [Nat.sub_self] at this; exact this.symm
        have HR2 := Lib.hid hR2
        clear hR2 HGO
        go_wp2_with (first
    | ((with_reducible refine' Wl.out ?_; apply wl_box (ty := 44) (y := (.tmp 0)) hS); (· (first | (go_simp; done) | (go_simp; with_reducible rfl))); (· exact rfl); clear hS; intro w3 b3 hS)
    | ((with_reducible refine' Wl.out ?_; apply wl_box (ty := 70) (y := (.tmp 1)) hS); (· (first | (go_simp; done) | (go_simp; with_reducible rfl))); (· exact rfl); clear hS; intro w4 b4 hS)
    | ((with_reducible refine' Wl.out ?_; apply wl_alloc (ty := 44) (dst := some 6) hS (.agg #[.slice none 0 0, .slice none 0 0, .int .i64 0, .bool false]) [.slice none 0 0, .slice none 0 0, .int .i64 0, .bool false]); (· kernel_rfl); (· rfl); clear hS; intro w6 b6 hS)
    | ((with_reducible refine' Wl.out ?_; apply wl_alloc (ty := 70) (dst := some 7) hS (.agg #[.int .i64 0, .int .i64 0, .int .i64 0, .int .i64 0, .int .i64 0]) [.int .i64 0, .int .i64 0, .int .i64 0, .int .i64 0, .int .i64 0]); (· kernel_rfl); (· rfl); clear hS; intro w7 b7 hS)
    | ((with_reducible refine' Wl.out ?_; apply wl_alloc (ty := 118) (dst := some 12) hS (.agg #[.int .i64 0, .int .i64 0, .slice none 0 0]) [.int .i64 0, .int .i64 0, .slice none 0 0]); (· kernel_rfl); (· rfl); clear hS; intro w12 b12 hS)
    | ((with_reducible refine' Wl.out ?_; apply wl_load hS); (· (first | exact Try.underlying2 | exact Try.underlying3)); (· exact rfl); (· exact rfl); (· (first | (apply Find.box; (· (repeat constructor)); rfl) | exact Find.mem (by assumption) | (apply Find.row; (· (repeat constructor)); assumption))))
    | ((with_reducible refine' Wl.out ?_; apply wg_load hS); (· (first | exact Try.underlying2 | exact Try.underlying3)); (· exact rfl); (· (first | rfl | (go_simp; done))); (· exact rfl); (· (first | (apply Find.box; (· (repeat constructor)); rfl) | exact Find.mem (by assumption) | (apply Find.row; (· (repeat constructor)); assumption))))
    | ((with_reducible refine' Wl.out ?_; apply wl_loads hS); (· (first | exact rowT44 | exact rowT70 | exact rowT118)); (· exact rfl); (· (first | (apply Finds.box; (· (repeat constructor)); (· (repeat constructor)); done) | (refine Finds.mem2 (by assumption) ?_; first | rfl | assumption | (simp; done)) | (apply Finds.row; (· (repeat constructor)); (· assumption); (· rfl)))))
    | ((with_reducible refine' Wl.out ?_; apply wg_loads hS); (· (first | exact rowT44 | exact rowT70 | exact rowT118)); (· (first | rfl | (go_simp; done))); (· exact rfl); (· (first | (apply Finds.box; (· (repeat constructor)); (· (repeat constructor)); done) | (refine Finds.mem2 (by assumption) ?_; first | rfl | assumption | (simp; done)) | (apply Finds.row; (· (repeat constructor)); (· assumption); (· rfl)))))
    | ((with_reducible refine' Wl.out ?_); (with_reducible refine' wg_case ?_ ?_) <;> (intro hgW; (try (have hg2 := hgW; simp [go_sem] at hg2)); (first | (exfalso; assumption) | ((with_reducible refine' Wl.out ?_; apply wl_unwanted); (· exact hgW)) | ((with_reducible refine' Wl.out ?_; apply wg_load hS); (· (first | exact Try.underlying2 | exact Try.underlying3)); (· exact rfl); (· exact hgW); (· exact rfl); (· (first | (apply Find.box; (· (repeat constructor)); rfl) | exact Find.mem (by assumption) | (apply Find.row; (· (repeat constructor)); assumption)))) | ((with_reducible refine' Wl.out ?_; apply wg_loads hS); (· (first | exact rowT44 | exact rowT70 | exact rowT118)); (· exact hgW); (· exact rfl); (· (first | (apply Finds.box; (· (repeat constructor)); (· (repeat constructor)); done) | (refine Finds.mem2 (by assumption) ?_; first | rfl | assumption | (simp; done)) | (apply Finds.row; (· (repeat constructor)); (· assumption); (· rfl)))))); clear hgW))
    | ((with_reducible refine' Wl.out ?_; apply wl_store hS); (· (first | exact rowT2 | exact rowT3)); (· exact rfl); (· (first | (go_simp; done) | (go_simp; with_reducible rfl))); (· (first | rfl | assumption | (simp [Value.oneCell']; done))); (· (repeat constructor)); (· (repeat constructor)); (· (repeat constructor)); clear hS; intro ws hS)
    | ((with_reducible refine' Wl.out ?_; apply wl_storeR hS); (· (first | exact rowT2 | exact rowT3)); (· exact rfl); (· (first | (go_simp; done) | (go_simp; with_reducible rfl))); (· (first | rfl | assumption | (simp [Value.oneCell']; done))); (· (repeat constructor)); (· (first | assumption | omega | (simp; omega))); clear hS; intro ws hS)
    | ((with_reducible refine' Wl.out ?_; apply wl_stores hS); (· (first | exact rowT44 | exact rowT70 | exact rowT118)); (· exact rfl); (· exact rfl); (· exact rfl); (· (first | assumption | (simp [Value.oneCell']; done))); (· (repeat constructor)); (· (repeat constructor)); (· (repeat constructor)); clear hS; intro ws hS)
    | (go_at_call 37; (fail_if_success (clear Mk107)); refine (letDE (flush_c _ _ hS.inw _ _ (by first | exact A0.out | exact A1.out | exact A2.out | exact R96.out | exact R107.out | exact dkL_dry A0.out | exact dkL_dry A1.out | exact dkL_dry A2.out | exact dkL_dry R96.out | exact dkL_dry R107.out | exact Lay.nil_rd _ _))).mono ?_; rintro e' w107 ⟨_, m107, rfl, ⟨p107, c107, q107, a107, D107, E107, HD107, HE107, rfl, R107⟩, hk⟩; replace hS := hS.call hk; (try replace A0 := Lib.hid (Lay.mono _ hk.le A0.out)); (try replace A1 := Lib.hid (Lay.mono _ hk.le A1.out)); (try replace A2 := Lib.hid (Lay.mono _ hk.le A2.out)); (try replace R96 := Lib.hid (Lay.mono _ hk.le R96.out)); (try replace R107 := Lib.hid (Lay.mono _ hk.le R107.out)); clear hk; have Mk107 := True.intro))
        · have he : E107 ≠ 0 := by simp_all
          refine ret_cells2 (n := 4) (k := 5) rfl rfl rfl hS (by (repeat constructor)) (by (repeat constructor)) rfl rfl dkRow lgRow rfl ?_
          rw [app_end2 (text := []) (P := 1) HE.out HP.out (HR.out.symm.trans HR2.out) (by rw [← HE107.out]; exact he), ← HD107.out, ← HE107.out]
          exact ⟨_, _, rfl, ⟨_, rfl, R107.out⟩, hS.done⟩
        have he : E107 = 0 := by simp_all
        have HE0 := Lib.hid he
        clear he
        replace hS := hS.drew
        refine startL (S := Sx _ [(b3, _), (b4, _)]) (by kernel_rfl) ((hS.sx0.cons hS (by (repeat constructor))).cons hS (by (repeat constructor))) (fun _ _ _ _ => trivial) (fun hHeld => ?_)
        refine takeN 0 rfl (by kernel_rfl) (yield_loads rfl rowT44 rfl (by (first | (apply FindsX.box; (· (repeat constructor)); (· (repeat constructor)); done) | (refine FindsX.mem (by assumption) ?_; first | rfl | assumption | (simp; done))))) ?_
        try simp only [Act.put, nz1, nz2, nz3]
        refine takeN 1 rfl (by kernel_rfl) (yield_loads rfl rowT70 rfl (by (first | (apply FindsX.box; (· (repeat constructor)); (· (repeat constructor)); done) | (refine FindsX.mem (by assumption) ?_; first | rfl | assumption | (simp; done))))) ?_
        try simp only [Act.put, nz1, nz2, nz3]
        refine wpAnyH_ready (rs := [2]) (by kernel_rfl) (by simp) ?_
        refine consL 2 rfl (fun K hK => ?_) AllReadyH.nil
        (with_reducible apply s_stores hS); (· exact rowT44); (· exact rfl); (· exact rfl); (· exact rfl); (· (first | assumption | (simp [Value.oneCell']; done))); (· (repeat constructor)); (· (repeat constructor)); (· (repeat constructor)); clear hS; intro ws hS
        refine hK.out _ _ (by first | exact ((hS.sx0.cons hS (by (repeat constructor))).cons hS (by (repeat constructor))) | exact Sx.le (by assumption) ((hS.sx0.cons hS (by (repeat constructor))).cons hS (by (repeat constructor)))) (fun hHeld => ?_)
        clear hK K
        try simp only [Act.put, nz1, nz2, nz3]
        refine wpAnyH_ready (rs := [3]) (by kernel_rfl) (by simp) ?_
        refine consL 3 rfl (fun K hK => ?_) AllReadyH.nil
        (with_reducible apply s_stores hS); (· exact rowT70); (· exact rfl); (· exact rfl); (· exact rfl); (· (first | assumption | (simp [Value.oneCell']; done))); (· (repeat constructor)); (· (repeat constructor)); (· (repeat constructor)); clear hS; intro ws hS
        refine hK.out _ _ (by first | exact ((hS.sx0.cons hS (by (repeat constructor))).cons hS (by (repeat constructor))) | exact Sx.le (by assumption) ((hS.sx0.cons hS (by (repeat constructor))).cons hS (by (repeat constructor)))) (fun hHeld => ?_)
        clear hK K
        try simp only [Act.put, nz1, nz2, nz3]
        focus (refine takeN 4 (v := ?_) rfl (by kernel_rfl) ?_ ?_; rotate_left; focus (intro w hSw; clear hSw; go_simp; try with_reducible rfl))
        try simp only [Act.put, nz1, nz2, nz3]
        refine wpAnyH_done (by kernel_rfl) ?_ _
        refine NoPanic.normal ?_
        all_goals
          go_wp2_with (first
    | ((with_reducible refine' Wl.out ?_; apply wl_box (ty := 44) (y := (.tmp 0)) hS); (· (first | (go_simp; done) | (go_simp; with_reducible rfl))); (· exact rfl); clear hS; intro w3 b3 hS)
    | ((with_reducible refine' Wl.out ?_; apply wl_box (ty := 70) (y := (.tmp 1)) hS); (· (first | (go_simp; done) | (go_simp; with_reducible rfl))); (· exact rfl); clear hS; intro w4 b4 hS)
    | ((with_reducible refine' Wl.out ?_; apply wl_alloc (ty := 44) (dst := some 6) hS (.agg #[.slice none 0 0, .slice none 0 0, .int .i64 0, .bool false]) [.slice none 0 0, .slice none 0 0, .int .i64 0, .bool false]); (· kernel_rfl); (· rfl); clear hS; intro w6 b6 hS)
    | ((with_reducible refine' Wl.out ?_; apply wl_alloc (ty := 70) (dst := some 7) hS (.agg #[.int .i64 0, .int .i64 0, .int .i64 0, .int .i64 0, .int .i64 0]) [.int .i64 0, .int .i64 0, .int .i64 0, .int .i64 0, .int .i64 0]); (· kernel_rfl); (· rfl); clear hS; intro w7 b7 hS)
    | ((with_reducible refine' Wl.out ?_; apply wl_alloc (ty := 118) (dst := some 12) hS (.agg #[.int .i64 0, .int .i64 0, .slice none 0 0]) [.int .i64 0, .int .i64 0, .slice none 0 0]); (· kernel_rfl); (· rfl); clear hS; intro w12 b12 hS)
    | ((with_reducible refine' Wl.out ?_; apply wl_load hS); (· (first | exact Try.underlying2 | exact Try.underlying3)); (· exact rfl); (· exact rfl); (· (first | (apply Find.box; (· (repeat constructor)); rfl) | exact Find.mem (by assumption) | (apply Find.row; (· (repeat constructor)); assumption))))
    | ((with_reducible refine' Wl.out ?_; apply wg_load hS); (· (first | exact Try.underlying2 | exact Try.underlying3)); (· exact rfl); (· (first | rfl | (go_simp; done))); (· exact rfl); (· (first | (apply Find.box; (· (repeat constructor)); rfl) | exact Find.mem (by assumption) | (apply Find.row; (· (repeat constructor)); assumption))))
    | ((with_reducible refine' Wl.out ?_; apply wl_loads hS); (· (first | exact rowT44 | exact rowT70 | exact rowT118)); (· exact rfl); (· (first | (apply Finds.box; (· (repeat constructor)); (· (repeat constructor)); done) | (refine Finds.mem2 (by assumption) ?_; first | rfl | assumption | (simp; done)) | (apply Finds.row; (· (repeat constructor)); (· assumption); (· rfl)))))
    | ((with_reducible refine' Wl.out ?_; apply wg_loads hS); (· (first | exact rowT44 | exact rowT70 | exact rowT118)); (· (first | rfl | (go_simp; done))); (· exact rfl); (· (first | (apply Finds.box; (· (repeat constructor)); (· (repeat constructor)); done) | (refine Finds.mem2 (by assumption) ?_; first | rfl | assumption | (simp; done)) | (apply Finds.row; (· (repeat constructor)); (· assumption); (· rfl)))))
    | ((with_reducible refine' Wl.out ?_); (with_reducible refine' wg_case ?_ ?_) <;> (intro hgW; (try (have hg2 := hgW; simp [go_sem] at hg2)); (first | (exfalso; assumption) | ((with_reducible refine' Wl.out ?_; apply wl_unwanted); (· exact hgW)) | ((with_reducible refine' Wl.out ?_; apply wg_load hS); (· (first | exact Try.underlying2 | exact Try.underlying3)); (· exact rfl); (· exact hgW); (· exact rfl); (· (first | (apply Find.box; (· (repeat constructor)); rfl) | exact Find.mem (by assumption) | (apply Find.row; (· (repeat constructor)); assumption)))) | ((with_reducible refine' Wl.out ?_; apply wg_loads hS); (· (first | exact rowT44 | exact rowT70 | exact rowT118)); (· exact hgW); (· exact rfl); (· (first | (apply Finds.box; (· (repeat constructor)); (· (repeat constructor)); done) | (refine Finds.mem2 (by assumption) ?_; first | rfl | assumption | (simp; done)) | (apply Finds.row; (· (repeat constructor)); (· assumption); (· rfl)))))); clear hgW))
    | ((with_reducible refine' Wl.out ?_; apply wl_store hS); (· (first | exact rowT2 | exact rowT3)); (· exact rfl); (· (first | (go_simp; done) | (go_simp; with_reducible rfl))); (· (first | rfl | assumption | (simp [Value.oneCell']; done))); (· (repeat constructor)); (· (repeat constructor)); (· (repeat constructor)); clear hS; intro ws hS)
    | ((with_reducible refine' Wl.out ?_; apply wl_storeR hS); (· (first | exact rowT2 | exact rowT3)); (· exact rfl); (· (first | (go_simp; done) | (go_simp; with_reducible rfl))); (· (first | rfl | assumption | (simp [Value.oneCell']; done))); (· (repeat constructor)); (· (first | assumption | omega | (simp; omega))); clear hS; intro ws hS)
    | ((with_reducible refine' Wl.out ?_; apply wl_stores hS); (· (first | exact rowT44 | exact rowT70 | exact rowT118)); (· exact rfl); (· exact rfl); (· exact rfl); (· (first | assumption | (simp [Value.oneCell']; done))); (· (repeat constructor)); (· (repeat constructor)); (· (repeat constructor)); clear hS; intro ws hS))
          have he := HE0.out
          refine ret_cells2 (n := 4) (k := 5) rfl rfl rfl hS (by (repeat constructor)) (by (repeat constructor)) rfl rfl dkRow lgRow rfl ?_
          rw [app_end3 (text := []) (P := 1) HE.out HP.out (HR.out.symm.trans HR2.out) (by rw [← HE107.out]; exact he), ← HD107.out]
          exact ⟨_, _, rfl, ⟨_, rfl, R107.out⟩, hS.done⟩
/-- journal.Append, whatever comes in. -/
theorem jappend_c (m : Mem) (w : World) (hm : m.In w) (cs : List Value) (d : Dk) (hd : dkL.rd m cs d) (b s g p n : Int) (vt : Value) (text : List Int) (ht : bytesL.rd m [vt] text) :
    Calls Try.prog 54 #[.agg cs.toArray, .agg ([.int .i64 b, .int .i64 s, .int .i64 g, .int .i64 p, .int .i64 n] : List Value).toArray, vt] w (RetDLE w m (appR d ⟨b, s, g, p, n⟩ text)) := by
  by_cases h0 : app0 d ⟨b, s, g, p, n⟩ text.length = 0
  · rcases Nat.eq_zero_or_pos text.length with h | h
    · have := List.eq_nil_of_length_eq_zero h
      subst this
      exact jappend_0 m w hm cs d hd b s g p n vt ht h0
    · exact jappend_yes m w hm cs d hd b s g p n vt text ht h0 h
  · exact jappend_no m w hm cs d hd b s g p n vt text ht h0
end Go.Proofs.Ytnmgiiaejpaeeaa
/- Texts: the law's few. -/
namespace Go.Proofs.Ytnmgiiaejpaeeaa
set_option linter.unusedVariables false
set_option linter.unusedSimpArgs false
open Go.RowKit Go.Shelf
def textsL : Lay (List (List Int)) := bytesL.list
def fewT (l : List (List Int)) : Bool := l.all (fun x => decide (x.length ≤ 200)) && decide (l.length ≤ 30)
set_option maxRecDepth 100000 in
set_option maxHeartbeats 4000000 in
theorem fewt_c (m : Mem) (w : World) (hm : m.In w) (v : Value) (l : List (List Int)) (h : textsL.rd m [v] l) :
    Calls Try.prog 65 #[v] w (Ret w m fun v _ => v = .bool (fewT l)) := by
  obtain ⟨p1, c1, rfl, b1, b2, b3, b4⟩ := Lay.list_open h
  have H4 := Lib.hid b4
  have hS := St.start hm
  simp only [maxLen] at b2
  clear h b3 b4
  go_enter Try.func65, Try.ntmps65
  go_wp2_with (first
    | ((with_reducible refine' Wl.out ?_; apply wl_load hS); (· (first | exact Try.underlying22)); (· exact rfl); (· exact rfl); (· (first | (apply Find.box; (· (repeat constructor)); rfl) | exact Find.mem (by assumption) | (apply Find.row; (· (repeat constructor)); assumption))))
    | ((with_reducible refine' Wl.out ?_; apply wg_load hS); (· (first | exact Try.underlying22)); (· exact rfl); (· (first | rfl | (go_simp; done))); (· exact rfl); (· (first | (apply Find.box; (· (repeat constructor)); rfl) | exact Find.mem (by assumption) | (apply Find.row; (· (repeat constructor)); assumption)))))
  go_loopw [7] (fun i wr => ∃ k : Nat, k ≤ l.length ∧ i = .int .i64 k ∧ Hid ((l.take k).all (fun x => decide (x.length ≤ 200)) = true) ∧ St [] w m wr [] m) (fun i _ => l.length - (intOf i).toNat)
  case atStart => exact ⟨0, Nat.zero_le _, rfl, by simp [Hid], hS⟩
  case round =>
    clear hS
    obtain ⟨k, hk, rfl, hall, hS⟩ := hrel
    by_cases hlt : k < l.length
    · obtain ⟨b, o, cs, rfl, hx, hg⟩ := H4.out.get k hlt
      obtain ⟨q, c, rfl, x1, x2, x3, x4⟩ := (show ∃ q c, cs = [.slice q l[k].length c] ∧ _ from hx)
      have hg' : m ⟨b, o + k, none⟩ = some (.slice q l[k].length c) := by have := hg 0 _ rfl; rw [show bytesL.n = 1 from rfl, Nat.mul_one] at this; exact this
      have HA : Hid ((l.take (k + 1)).all (fun x => decide (x.length ≤ 200)) = decide (l[k].length ≤ 200)) := by
        have := hall.out
        show _ = _
        rw [List.take_succ_eq_append_getElem hlt, List.all_append, this]; simp
      have x2' : c ≤ 9223372036854775807 := by simpa [maxLen] using x2
      clear hg hx hall x2 x3 x4
      go_wp2_with (first
    | ((with_reducible refine' Wl.out ?_; apply wl_load hS); (· (first | exact Try.underlying22)); (· exact rfl); (· exact rfl); (· (first | (apply Find.box; (· (repeat constructor)); rfl) | exact Find.mem (by assumption) | (apply Find.row; (· (repeat constructor)); assumption))))
    | ((with_reducible refine' Wl.out ?_; apply wg_load hS); (· (first | exact Try.underlying22)); (· exact rfl); (· (first | rfl | (go_simp; done))); (· exact rfl); (· (first | (apply Find.box; (· (repeat constructor)); rfl) | exact Find.mem (by assumption) | (apply Find.row; (· (repeat constructor)); assumption)))))
      · go_ret
        exact ⟨_, m, rfl, ret_bool' (by have := all_take _ _ _ (HA.out.trans (by simp; omega)); simp [fewT, this]), hS.done⟩
      · go_roundw
        case rel => exact ⟨k + 1, hlt, by go_num, HA.out.trans (by simp; omega), hS⟩
        case measure => simp [intOf]; omega
    · obtain rfl : k = l.length := by omega
      go_wp2_with fail
      go_ret
      exact ⟨_, m, rfl, ret_bool' (by have := hall.out; rw [List.take_length] at this; unfold fewT; rw [this, Bool.true_and]; exact decide_eq_decide.2 (by omega)), hS.done⟩
end Go.Proofs.Ytnmgiiaejpaeeaa
