/- Plain laws of journals: groups behind one another, and what is scanned. -/
import Derived.Test.YtnmgiiaejpaeeaaJp2G
namespace Go.Proofs.Ytnmgiiaejpaeeaa
set_option linter.unusedVariables false
set_option linter.unusedSimpArgs false
open Go.RowKit
/-- The texts' groups lie behind one another, from p on to q, numbered from n on. -/
def Laid (d : Dk) (b s gen : Int) : Int → Int → List (List Int) → Int → Prop
  | p, _, [], q => p = q
  | p, n, t :: l, q => ∃ P : Nat, ¬ 65536 < t.length ∧ needN t.length = P ∧ lgOK ⟨b, s, gen, p, n⟩ ∧ p + P ≤ s ∧ Stands d ⟨b, s, gen, p, n⟩ t P ∧ Laid d b s gen (p + P) (n + 1) l q
theorem Laid.le {d : Dk} {b s gen : Int} : ∀ {l : List (List Int)} {p n q : Int}, Laid d b s gen p n l q → p ≤ q
  | [], p, n, q, h => by rw [show p = q from h]; omega
  | t :: l, p, n, q, h => by
    obtain ⟨P, _, _, _, _, _, h⟩ := h
    have := Laid.le h
    omega
theorem Laid.keep {d D : Dk} {b s gen : Int} (hl : D.dry.length = d.dry.length) : ∀ {l : List (List Int)} {p n q : Int}, Laid d b s gen p n l q → (∀ k : Nat, b + p ≤ k → (k : Int) < b + q → sees D k = sees d k) → Laid D b s gen p n l q
  | [], _, _, _, h, _ => h
  | t :: l, p, n, q, h, hs => by
    obtain ⟨P, h1, h2, h3, h4, h5, h6⟩ := h
    have hle := Laid.le h6
    exact ⟨P, h1, h2, h3, h4, h5.keep hl fun k k1 k2 => hs k k1 (by simp only at k2; omega), h6.keep hl fun k k1 k2 => hs k (by omega) k2⟩
theorem Laid.snoc {d : Dk} {b s gen : Int} {t : List Int} {P : Nat} (h1 : ¬ 65536 < t.length) (h2 : needN t.length = P) : ∀ {l : List (List Int)} {p n q : Int}, Laid d b s gen p n l q → lgOK ⟨b, s, gen, q, n + l.length⟩ → q + P ≤ s → Stands d ⟨b, s, gen, q, n + l.length⟩ t P → Laid d b s gen p n (l ++ [t]) (q + P)
  | [], p, n, q, h, h3, h4, h5 => by
    obtain rfl : p = q := h
    rw [show n + (([] : List (List Int)).length : Int) = n by simp] at h3 h5
    exact ⟨P, h1, h2, h3, h4, h5, rfl⟩
  | u :: l, p, n, q, h, h3, h4, h5 => by
    obtain ⟨P', k1, k2, k3, k4, k5, k6⟩ := h
    have e : n + ((u :: l).length : Int) = n + 1 + (l.length : Int) := by simp; omega
    rw [e] at h3 h5
    exact ⟨P', k1, k2, k3, k4, k5, Laid.snoc h1 h2 k6 h3 h4 h5⟩
theorem Laid.scan {d : Dk} {b s gen : Int} (hk : checkOK d) (hd : d.dead = false) : ∀ {l : List (List Int)} {p q : Int} (f : Nat) (acc : List (List Int)), Laid d b s gen p acc.length l q → groupR d ⟨b, s, gen, q, ((acc ++ l).length : Int)⟩ = none → l.length < f → scanGo d b s gen f p acc = (acc ++ l, q)
  | _, _, _, 0, _, _, _, h => by omega
  | [], p, q, f + 1, acc, h, hn, _ => by
    obtain rfl : p = q := h
    rw [List.append_nil] at hn ⊢
    exact scan_none hn
  | t :: l, p, q, f + 1, acc, h, hn, hf => by
    obtain ⟨P, h1, h2, h3, h4, h5, h6⟩ := h
    rw [scan_some (group_stands hk hd h3 h1 h2 h4 h5)]
    have e : ((acc.length : Int) + 1) = ((acc ++ [t]).length : Int) := by simp
    rw [e] at h6
    rw [Laid.scan hk hd f (acc ++ [t]) h6 (by simpa using hn) (by simp at hf; omega)]
    simp
/-- No sector from lo on to hi is of that generation. -/
def NoGen (d : Dk) (lo hi gen : Int) : Prop := ∀ k : Nat, lo ≤ k → (k : Int) < hi → openE (sees d k) = 0 → openN (sees d k) / 1048576 ≠ gen
theorem NoGen.sub {d : Dk} {lo hi lo' hi' gen : Int} (h : NoGen d lo hi gen) (h1 : lo ≤ lo') (h2 : hi' ≤ hi) : NoGen d lo' hi' gen := fun k k1 k2 => h k (by omega) (by omega)
theorem NoGen.none {d : Dk} {g : Lg} (h : NoGen d (g.base + g.pos) (g.base + g.size) g.gen) (hk : checkOK d) (hd : d.dead = false) (hg : lgOK g) (hr : g.base + g.size ≤ (d.dry.length : Int) / 32) : groupR d g = none := by
  obtain ⟨b1, b2, b3, b4, b5, b6, b7, b8, b9, b10⟩ := id hg
  unfold groupR
  by_cases hp : g.pos + ((0 : Nat) : Int) < g.size
  · refine go_none hp (piece_not (n := (g.base + (g.pos + ((0 : Nat) : Int))).toNat) hk hd (by omega) (by omega) fun hh => ?_)
    refine h _ (by omega) (by omega) hh.1 ?_
    rw [hh.2, stamp_div hg]
  · exact go_far hp
theorem scan_laid {d : Dk} {b s gen q : Int} {l : List (List Int)} (hk : checkOK d) (hd : d.dead = false) (hr : b + s ≤ (d.dry.length : Int) / 32) (h0 : lgOK ⟨b, s, gen, 0, 0⟩) (hL : Laid d b s gen 0 0 l q) (hq : q ≤ s) (hn : groupR d ⟨b, s, gen, q, (l.length : Int)⟩ = none) (hl : l.length ≤ 4096) :
    scanE d b s gen = 0 ∧ scanT d b s gen = l ∧ scanL d b s gen = ⟨b, s, gen, q, (l.length : Int)⟩ := by
  have hE : scanE d b s gen = 0 := by
    unfold scanE
    rw [there_yes hk h0 hr, hd]; rfl
  have hs := Laid.scan hk hd (p := 0) 4097 [] (by simpa using hL) (by simpa using hn) (by omega)
  rw [List.nil_append] at hs
  exact ⟨hE, scan_yes hE hs⟩
/-! ### A journal that is appended to -/
structure JInv (d : Dk) (N : Nat) (b s gen : Int) (l : List (List Int)) (q : Int) : Prop where
  ok : checkOK d
  live : d.dead = false
  wet : d.wet = []
  len : d.dry.length = N * 32
  lg : lgOK ⟨b, s, gen, q, (l.length : Int)⟩
  room : b + s ≤ N
  laid : Laid d b s gen 0 0 l q
  none : NoGen d (b + q) (b + s) gen
theorem JInv.scan {d : Dk} {N : Nat} {b s gen q : Int} {l : List (List Int)} (h : JInv d N b s gen l q) (hl : l.length ≤ 4096) : scanE d b s gen = 0 ∧ scanT d b s gen = l ∧ scanL d b s gen = ⟨b, s, gen, q, (l.length : Int)⟩ := by
  have hlen := h.len
  have hroom := h.room
  obtain ⟨b1, b2, b3, b4, b5, b6, b7, b8, b9, b10⟩ := h.lg
  simp only at b1 b2 b3 b4 b5 b6 b7 b8 b9 b10
  have hr : b + s ≤ (d.dry.length : Int) / 32 := by omega
  exact scan_laid h.ok h.live hr (by simp only [lgOK]; omega) h.laid b8 (h.none.none h.ok h.live h.lg hr) hl
theorem JInv.next {d D : Dk} {G : Lg} {N P : Nat} {b s gen q : Int} {l : List (List Int)} {t : List Int} (h : JInv d N b s gen l q) (ha : AppOK d ⟨b, s, gen, q, (l.length : Int)⟩ t D G P) : JInv D N b s gen (l ++ [t]) (q + P) ∧ G = ⟨b, s, gen, q + P, ((l ++ [t]).length : Int)⟩ := by
  have hlen := h.len
  have hroom := h.room
  have hfit := ha.fit
  have hbel := ha.below
  simp only at hfit hbel
  obtain ⟨b1, b2, b3, b4, b5, b6, b7, b8, b9, b10⟩ := h.lg
  simp only at b1 b2 b3 b4 b5 b6 b7 b8 b9 b10
  have hs := ha.sees
  simp only at hs
  have hG : G = ⟨b, s, gen, q + P, ((l ++ [t]).length : Int)⟩ := by rw [ha.next]; simp
  have hlg : lgOK ⟨b, s, gen, q + P, ((l ++ [t]).length : Int)⟩ := ⟨b1, b2, b3, b4, b5, b6, by simp only; omega, by simp only; omega, by simp only; omega, by simp only [List.length_append, List.length_cons, List.length_nil]; omega⟩
  refine ⟨⟨ha.ok, ha.live, ha.wet, by rw [ha.len, hlen], hlg, hroom, ?_, ?_⟩, hG⟩
  · have hkeep : Laid D b s gen 0 0 l q := h.laid.keep ha.len fun k k1 k2 => by
      rw [hs k (by omega), if_neg (by omega)]
    exact hkeep.snoc ha.long ha.many (by simpa using h.lg) hfit (by simpa using ha.stands)
  · intro k k1 k2
    rw [hs k (by omega), if_neg (by omega)]
    exact h.none k (by omega) k2
theorem need_pos (n : Nat) : 0 ≤ needN n := by unfold needN; split <;> omega
/-! ### A new disk -/
theorem new_ok {n : Nat} (h1 : 1 ≤ n) (h2 : n ≤ 8192) : newE n = 0 ∧ checkOK (newD n) ∧ (newD n).dead = false ∧ (newD n).wet = [] ∧ (newD n).fuse = -1 ∧ (newD n).dry.length = n * 32 ∧ ∀ k, (k + 1) * 32 ≤ n * 32 → sees (newD n) k = List.replicate 32 0 := by
  have e : newD n = ⟨List.replicate (n * 32) 0, [], -1, false⟩ := by unfold newD; rw [if_neg (by omega), Int.toNat_natCast]
  refine ⟨by unfold newE; rw [if_neg (by omega)], ?_, by rw [e], by rw [e], by rw [e], by rw [e]; simp, fun k hk => ?_⟩
  · rw [e]
    refine ⟨by simp; omega, by simp; omega, by simp, by simp, by simp, by simp, by simp⟩
  · rw [e]
    have : sec (List.replicate (n * 32) (0 : Int)) k = List.replicate 32 0 := by unfold sec; rw [List.take_replicate, List.drop_replicate]; congr 1; omega
    exact this
theorem zero_open : openE (List.replicate 32 0) = 5 := by decide
theorem NoGen.new {n : Nat} (h1 : 1 ≤ n) (h2 : n ≤ 8192) {lo hi gen : Int} (h0 : 0 ≤ lo) (h : hi ≤ n) : NoGen (newD n) lo hi gen := fun k k1 k2 he => by
  rw [(new_ok h1 h2).2.2.2.2.2.2 k (by omega), zero_open] at he
  cases he
/-- Of an earlier generation: appended to, too, no sector is of the later one. -/
theorem AppOK.noGen {d D : Dk} {g G : Lg} {t : List Int} {P : Nat} (ha : AppOK d g t D G P) {lo hi gen : Int} (h : NoGen d lo hi gen) (hg : g.gen ≠ gen) (hi' : hi ≤ (d.dry.length : Int) / 32) : NoGen D lo hi gen := by
  obtain ⟨b1, b2, b3, b4, b5, b6, b7, b8, b9, b10⟩ := id ha.lg
  intro k k1 k2
  rw [ha.sees k (by omega)]
  split
  · have hc := chunk_len t ((k : Int) - (g.base + g.pos)).toNat
    intro _
    rw [(part_open ha.lg (by omega)).2.1, stamp_div ha.lg]
    exact hg
  · exact h k k1 k2
end Go.Proofs.Ytnmgiiaejpaeeaa
