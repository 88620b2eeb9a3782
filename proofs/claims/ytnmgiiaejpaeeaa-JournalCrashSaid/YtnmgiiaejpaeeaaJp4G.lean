/- Plain laws of journals: what a disk that ended leaves, and what is read of it. -/
import Derived.Test.YtnmgiiaejpaeeaaJp3G
namespace Go.Proofs.Ytnmgiiaejpaeeaa
set_option linter.unusedVariables false
set_option linter.unusedSimpArgs false
open Go.RowKit
/-- The writes of the parts from the i-th one on, n of them. -/
def wlist (g : Lg) (text : List Int) (P : Nat) : Nat → Nat → List Wr
  | 0, _ => []
  | n + 1, i => ⟨g.base + g.pos + i, partB g i P (chunkOf text i)⟩ :: wlist g text P n (i + 1)
theorem wlist_len {g : Lg} {text : List Int} {P : Nat} : ∀ n i, (wlist g text P n i).length = n
  | 0, _ => rfl
  | n + 1, i => by rw [wlist, List.length_cons, wlist_len n (i + 1)]
theorem go_ways {g : Lg} {text : List Int} {P : Nat} : ∀ (n i : Nat) (d D : Dk) (e : Int), appGo g text P n i d = (D, e) → checkOK d → d.dead = false → d.wet.length + n ≤ 8192 → 0 ≤ g.base + g.pos → g.base + g.pos + i + n ≤ (d.dry.length : Int) / 32 →
    (e = 0 ∧ D.dry = d.dry ∧ D.wet = d.wet ++ wlist g text P n i ∧ D.dead = false ∧ checkOK D) ∨ (e = 11 ∧ ∃ j, j < n ∧ D.dry = d.dry ∧ D.wet = d.wet ++ wlist g text P j i ∧ checkOK D)
  | 0, i, d, D, e, h, h1, h2, h3, h4, h5 => by
    have h' := Prod.mk.inj h
    obtain ⟨rfl, rfl⟩ := h'
    exact .inl ⟨rfl, rfl, by simp [wlist], h2, h1⟩
  | n + 1, i, d, D, e, h, h1, h2, h3, h4, h5 => by
    have hc := chunk_len text i
    obtain ⟨m, hm⟩ : ∃ m : Nat, g.base + g.pos + (i : Int) = m := ⟨(g.base + g.pos + i).toNat, by omega⟩
    have hb : (partB g i P (chunkOf text i)).length = 32 := part_length (by omega)
    rw [appGo] at h
    by_cases he : writeE d (g.base + g.pos + i) (partB g i P (chunkOf text i)) = 0
    · rw [if_pos he] at h
      obtain ⟨_, _, _, _, _, _, w7⟩ := write_zero he
      have w8 := write_ok he
      have hw : (writeD d (g.base + g.pos + i) (partB g i P (chunkOf text i))).wet = d.wet ++ [⟨g.base + g.pos + i, partB g i P (chunkOf text i)⟩] := by rw [w7]
      rcases go_ways n (i + 1) _ D e h w8.1 w8.2 (by rw [hw]; simp; omega) h4 (by rw [wrote_dry he]; push_cast; omega) with ⟨k1, k2, k3, k4, k5⟩ | ⟨k1, j, k2, k3, k4, k5⟩
      · exact .inl ⟨k1, by rw [k2, wrote_dry he], by rw [k3, hw, wlist]; simp, k4, k5⟩
      · exact .inr ⟨k1, j + 1, by omega, by rw [k3, wrote_dry he], by rw [k4, hw, wlist]; simp, k5⟩
    · rw [if_neg he] at h
      have h' := Prod.mk.inj h
      obtain ⟨rfl, rfl⟩ := h'
      have h0 : writeE0 d (g.base + g.pos + i) (partB g i P (chunkOf text i)).length = 0 := by
        unfold writeE0
        rw [if_neg (by simp [h1, hb]), if_neg (by simp [h2]), if_neg (by rw [hm, far_nat (by omega)]; decide), if_neg (by omega)]
      have hf : d.fuse = 0 := by
        apply Decidable.byContradiction
        intro hf
        apply he
        unfold writeE deedE
        rw [if_pos h0, if_neg hf]
      have hD : writeD d (g.base + g.pos + i) (partB g i P (chunkOf text i)) = { d with dead := true } := by
        unfold writeD deedD
        rw [if_pos h0, if_pos hf]
      have hE : writeE d (g.base + g.pos + i) (partB g i P (chunkOf text i)) = 11 := by
        unfold writeE deedE
        rw [if_pos h0, if_pos hf]
      refine .inr ⟨hE, 0, by omega, by rw [hD], by rw [hD]; simp [wlist], ?_⟩
      rw [hD]
      exact h1
theorem app_ends {d : Dk} {g : Lg} {text : List Int} {D : Dk} {G : Lg} {e : Int} (h : appR d g text = (D, G, e)) (h1 : checkOK d) (h2 : d.dead = false) (h4 : d.wet = []) (hg : lgOK g) (hl : ¬ 65536 < text.length) (hr : g.base + g.size ≤ (d.dry.length : Int) / 32) :
    e = 0 ∨ e = 7 ∨ (e = 11 ∧ ∃ P j : Nat, needN text.length = P ∧ j ≤ P ∧ g.pos + P ≤ g.size ∧ D.dry = d.dry ∧ D.wet = wlist g text P j 0 ∧ checkOK D) := by
  by_cases hf : g.size - g.pos < needN text.length ∨ g.n = 262144
  · rw [app_full h1 hg hl hr hf] at h
    have := Prod.mk.inj (Prod.mk.inj h).2
    exact .inr (.inl this.2.symm)
  · obtain ⟨P, hP, p1, p2, p3, p4⟩ := need_parts hl
    have h0 : app0 d g text.length = 0 := by
      unfold app0
      rw [if_neg (by simp [h1, hg]), if_neg hl, if_neg (by rw [there_yes h1 hg hr]; decide), if_neg hf]
    obtain ⟨b1, b2, b3, b4, b5, b6, b7, b8, b9, b10⟩ := hg
    unfold appR at h
    rw [if_neg (by simp [h0]), hP, Int.toNat_natCast] at h
    obtain ⟨r, hr'⟩ : ∃ r, r = appGo g text P P 0 d := ⟨_, rfl⟩
    rw [← hr'] at h
    obtain ⟨D1, e1⟩ := r
    simp only at h
    rcases go_ways P 0 d D1 e1 hr'.symm h1 h2 (by rw [h4]; simp; omega) (by omega) (by push_cast; omega) with ⟨k1, k2, k3, k4, k5⟩ | ⟨k1, j, k2, k3, k4, k5⟩
    · subst k1
      rw [if_neg (by simp)] at h
      by_cases hfl : flushE D1 = 0
      · rw [if_neg (by simp [hfl])] at h
        exact .inl (Prod.mk.inj (Prod.mk.inj h).2).2.symm
      · rw [if_pos (by simpa using hfl)] at h
        have hfu : D1.fuse = 0 := Decidable.byContradiction fun hh => hfl (flush_can k5 k4 hh)
        have hE : flushE D1 = 11 := by unfold flushE deedE; rw [if_pos (alive_of_ok k5 k4), if_pos hfu]
        have hD : flushD D1 = { D1 with dead := true } := by unfold flushD deedD; rw [if_pos (alive_of_ok k5 k4), if_pos hfu]
        have e1 := (Prod.mk.inj h).1
        have e2 := (Prod.mk.inj (Prod.mk.inj h).2).2
        refine .inr (.inr ⟨by rw [← e2, hE], P, P, hP, Nat.le_refl _, by omega, by rw [← e1, hD]; exact k2, by rw [← e1, hD]; show D1.wet = _; rw [k3, h4]; simp, by rw [← e1, hD]; exact k5⟩)
    · subst k1
      rw [if_pos (by decide)] at h
      have e1 := (Prod.mk.inj h).1
      have e2 := (Prod.mk.inj (Prod.mk.inj h).2).2
      refine .inr (.inr ⟨e2.symm, P, j, hP, by omega, by omega, by rw [← e1]; exact k3, by rw [← e1, k4, h4]; simp, by rw [← e1]; exact k5⟩)
/-! ### A crash -/
theorem settle_wlist {g : Lg} {text : List Int} {P : Nat} {many : Nat → Nat} {k : Nat} : ∀ (n i i0 : Nat) (s : List Int), settleS many i0 (wlist g text P n i) k s =
    if g.base + g.pos + i ≤ (k : Int) ∧ (k : Int) < g.base + g.pos + i + n then (partB g ((k : Int) - (g.base + g.pos)).toNat P (chunkOf text ((k : Int) - (g.base + g.pos)).toNat)).take (many (i0 + (((k : Int) - (g.base + g.pos)).toNat - i))) ++ s.drop ((partB g ((k : Int) - (g.base + g.pos)).toNat P (chunkOf text ((k : Int) - (g.base + g.pos)).toNat)).take (many (i0 + (((k : Int) - (g.base + g.pos)).toNat - i)))).length else s
  | 0, i, i0, s => by rw [wlist, if_neg (by omega)]; rfl
  | n + 1, i, i0, s => by
    show settleS many (i0 + 1) (wlist g text P n (i + 1)) k _ = _
    rw [settle_wlist n (i + 1) (i0 + 1)]
    by_cases hk : g.base + g.pos + (i : Int) = k
    · have e : ((k : Int) - (g.base + g.pos)).toNat = i := by omega
      rw [if_neg (by omega), if_pos hk, if_pos (by omega), e, Nat.sub_self, Nat.add_zero]
    · rw [if_neg hk]
      by_cases hr : g.base + g.pos + ((i + 1 : Nat) : Int) ≤ (k : Int) ∧ (k : Int) < g.base + g.pos + ((i + 1 : Nat) : Int) + n
      · rw [if_pos hr, if_pos (by omega)]
        have e : i0 + 1 + (((k : Int) - (g.base + g.pos)).toNat - (i + 1)) = i0 + (((k : Int) - (g.base + g.pos)).toNat - i) := by omega
        rw [e]
      · rw [if_neg hr, if_neg (by omega)]
/-- No sector ends as one of that generation. -/
def NoTail (d : Dk) (lo hi gen : Int) : Prop := ∀ k : Nat, lo ≤ k → (k : Int) < hi → ∀ g : Lg, lgOK g → g.gen = gen → (sees d k).drop 24 ≠ le8 (stampOf g)
theorem NoTail.sub {d : Dk} {lo hi lo' hi' gen : Int} (h : NoTail d lo hi gen) (h1 : lo ≤ lo') (h2 : hi' ≤ hi) : NoTail d lo' hi' gen := fun k k1 k2 => h k (by omega) (by omega)
theorem NoTail.new {n : Nat} (h1 : 1 ≤ n) (h2 : n ≤ 8192) {lo hi gen : Int} (h0 : 0 ≤ lo) (h : hi ≤ n) : NoTail (newD n) lo hi gen := fun k k1 k2 g hg _ => by
  rw [(new_ok h1 h2).2.2.2.2.2.2 k (by omega)]
  intro e
  have h1 := stamp_ok hg
  have e2 : le8 (stampOf g) = [0, 0, 0, 0, 0, 0, 0, 0] := e.symm
  simp only [le8, List.cons.injEq, and_true] at e2
  omega
theorem AppOK.noTail {d D : Dk} {g G : Lg} {t : List Int} {P : Nat} (ha : AppOK d g t D G P) {lo hi gen : Int} (h : NoTail d lo hi gen) (hg : g.gen ≠ gen) (hi' : hi ≤ (d.dry.length : Int) / 32) : NoTail D lo hi gen := by
  obtain ⟨b1, b2, b3, b4, b5, b6, b7, b8, b9, b10⟩ := id ha.lg
  intro k k1 k2 g' hg' hgen
  rw [ha.sees k (by omega)]
  split
  · have hc := chunk_len t ((k : Int) - (g.base + g.pos)).toNat
    have hd := drop24_seal (stampOf g) (partPay ((k : Int) - (g.base + g.pos)).toNat P (chunkOf t ((k : Int) - (g.base + g.pos)).toNat)) (pay_len (by omega))
    unfold partB
    rw [hd]
    intro e
    have s1 := stamp_ok ha.lg
    have s2 := stamp_ok hg'
    have := le8_inj s1.1 s1.2 s2.1 s2.2 e
    have q1 := stamp_div ha.lg
    have q2 := stamp_div hg'
    rw [this, q2] at q1
    exact hg (by rw [← q1, hgen])
  · exact h k k1 k2 g' hg' hgen
theorem AppOK.tailKeep {d D : Dk} {g G : Lg} {t : List Int} {P : Nat} (ha : AppOK d g t D G P) {lo hi gen : Int} (h : NoTail d lo hi gen) (hlo : g.base + g.pos + P ≤ lo) (hi' : hi ≤ (d.dry.length : Int) / 32) (h0 : 0 ≤ lo) : NoTail D lo hi gen := by
  intro k k1 k2
  rw [ha.sees k (by omega), if_neg (by omega)]
  exact h k k1 k2
/-- What a crash leaves. -/
theorem crash_sees {D : Dk} (h : checkOK D) (keep : List Int) : checkOK (crashD D keep) ∧ (crashD D keep).dead = false ∧ (crashD D keep).wet = [] ∧ (crashD D keep).dry.length = D.dry.length ∧ ∀ k, sees (crashD D keep) k = settleS (keepN keep) 0 D.wet k (sec D.dry k) := by
  have e := crash_ok h keep
  refine ⟨crash_check h keep, by rw [e], by rw [e], crashed_length h keep, fun k => ?_⟩
  rw [← crashed_sec h keep k]
  show (lastOf (k : Int) (crashD D keep).wet.reverse).getD _ = _
  rw [show (crashD D keep).wet = [] by rw [e]]
  rfl
theorem sees_dry {d : Dk} (h : d.wet = []) (k : Nat) : sees d k = sec d.dry k := by unfold sees; rw [h]; rfl
end Go.Proofs.Ytnmgiiaejpaeeaa
