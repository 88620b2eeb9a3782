/- Plain laws of journals: what an append leaves, and when it may be. -/
import Derived.Test.YtnmgiiaejpaeeaaJp1G
namespace Go.Proofs.Ytnmgiiaejpaeeaa
set_option linter.unusedVariables false
set_option linter.unusedSimpArgs false
open Go.RowKit
theorem go_zero {g : Lg} {text : List Int} {P : Nat} : ∀ (n i : Nat) (d D : Dk), appGo g text P n i d = (D, 0) → checkOK d → d.dead = false →
    checkOK D ∧ D.dead = false ∧ D.dry = d.dry ∧ (d.fuse = -1 → D.fuse = -1) ∧
    ∀ k : Nat, sees D k = if g.base + g.pos + i ≤ (k : Int) ∧ (k : Int) < g.base + g.pos + i + n then partB g ((k : Int) - (g.base + g.pos)).toNat P (chunkOf text ((k : Int) - (g.base + g.pos)).toNat) else sees d k
  | 0, i, d, D, h, h1, h2 => by
    cases h
    exact ⟨h1, h2, rfl, fun h => h, fun k => by rw [if_neg (by omega)]⟩
  | n + 1, i, d, D, h, h1, h2 => by
    rw [appGo] at h
    by_cases he : writeE d (g.base + g.pos + i) (partB g i P (chunkOf text i)) = 0
    · rw [if_pos he] at h
      obtain ⟨_, w2, w3, w4, w5, w6, w7⟩ := write_zero he
      have w8 := write_ok he
      obtain ⟨k1, k2, k3, k4, k5⟩ := go_zero n (i + 1) _ D h w8.1 w8.2
      refine ⟨k1, k2, by rw [k3, wrote_dry he], fun hf => k4 (by rw [w7]; simp [hf]), fun k => ?_⟩
      rw [k5, sees_wrote he]
      by_cases hk : g.base + g.pos + (i : Int) = k
      · rw [if_neg (by omega), if_pos hk, if_pos (by omega)]
        have : ((k : Int) - (g.base + g.pos)).toNat = i := by omega
        rw [this]
      · rw [if_neg hk]
        by_cases hr : g.base + g.pos + ((i + 1 : Nat) : Int) ≤ (k : Int) ∧ (k : Int) < g.base + g.pos + ((i + 1 : Nat) : Int) + n
        · rw [if_pos hr, if_pos (by omega)]
        · rw [if_neg hr, if_neg (by omega)]
    · rw [if_neg he] at h
      exact absurd (Prod.mk.inj h).2 he
/-- What an append that went well leaves. -/
structure AppOK (d : Dk) (g : Lg) (text : List Int) (D : Dk) (G : Lg) (P : Nat) : Prop where
  ok0 : checkOK d
  live0 : d.dead = false
  lg : lgOK g
  long : ¬ 65536 < text.length
  many : needN text.length = P
  fit : g.pos + P ≤ g.size
  room : g.base + g.size ≤ (d.dry.length : Int) / 32
  next : G = ⟨g.base, g.size, g.gen, g.pos + P, g.n + 1⟩
  below : g.n < 262144
  ok : checkOK D
  live : D.dead = false
  wet : D.wet = []
  len : D.dry.length = d.dry.length
  fuse : d.fuse = -1 → D.fuse = -1
  sees : ∀ k : Nat, (k + 1) * 32 ≤ d.dry.length → sees D k = if g.base + g.pos ≤ (k : Int) ∧ (k : Int) < g.base + g.pos + P then partB g ((k : Int) - (g.base + g.pos)).toNat P (chunkOf text ((k : Int) - (g.base + g.pos)).toNat) else Go.Proofs.Ytnmgiiaejpaeeaa.sees d k
theorem app_zero' {d : Dk} {g : Lg} {n : Nat} (h : app0 d g n = 0) : checkOK d ∧ lgOK g ∧ ¬ 65536 < n ∧ g.base + g.size ≤ (d.dry.length : Int) / 32 ∧ ¬ (g.size - g.pos < needN n ∨ g.n = 262144) := by
  obtain ⟨h1, h2, h3, h4, h5⟩ := app_zero h
  have := of_decide_eq_true (show decide _ = true from h4)
  exact ⟨h1, h2, h3, this.2.2, by omega⟩
theorem app_ok {d : Dk} {g : Lg} {text : List Int} {D : Dk} {G : Lg} (h : appR d g text = (D, G, 0)) : ∃ P, AppOK d g text D G P := by
  unfold appR at h
  by_cases h0 : app0 d g text.length = 0
  · rw [if_neg (by simp [h0])] at h
    obtain ⟨z1, z2, z3, z4, z5⟩ := app_zero' h0
    obtain ⟨P, hP, p1, p2, p3, p4⟩ := need_parts z3
    rw [hP, Int.toNat_natCast] at h
    simp only at h
    obtain ⟨D1, e1⟩ : ∃ r, r = appGo g text P P 0 d := ⟨_, rfl⟩
    rw [← e1] at h
    obtain ⟨D1, e⟩ := D1
    simp only at h
    by_cases he : e = 0
    · subst he
      rw [if_neg (by simp)] at h
      by_cases hf : flushE D1 = 0
      · rw [if_neg (by simp [hf])] at h
        simp only [Prod.mk.injEq] at h
        obtain ⟨rfl, rfl, _⟩ := h
        have hlive : d.dead = false := by
          cases P with
          | zero => omega
          | succ P =>
            rw [appGo] at e1
            by_cases hw : writeE d (g.base + g.pos + ((0 : Nat) : Int)) (partB g 0 (P + 1) (chunkOf text 0)) = 0
            · exact (write_zero hw).2.2.1
            · rw [if_neg hw] at e1; exact absurd (Prod.mk.inj e1).2.symm hw
        obtain ⟨k1, k2, k3, k4, k5⟩ := go_zero P 0 d D1 e1.symm z1 hlive
        obtain ⟨f1, f2, f3⟩ := flush_ok hf
        have hlen : (flushD D1).dry.length = d.dry.length := by
          rw [(flush_zero hf).2.2.2]; show (settleAt _ 0 D1.wet D1.dry).length = _
          rw [settled_length k1 _ (fun _ => Nat.le_refl _), k3]
        have hn : 0 ≤ g.n ∧ g.n ≤ 262144 := ⟨z2.2.2.2.2.2.2.2.2.1, z2.2.2.2.2.2.2.2.2.2⟩
        refine ⟨P, z1, hlive, z2, z3, hP, by omega, z4, rfl, by omega, f1, f2, f3, hlen, fun hfu => ?_, fun k hk => ?_⟩
        · rw [(flush_zero hf).2.2.2]
          show (if D1.fuse = -1 then -1 else D1.fuse - 1) = -1
          rw [if_pos (k4 hfu)]
        · rw [sees_flushed hf (by rw [k3]; exact hk), k5]
          simp only [Int.natCast_zero, Int.add_zero]
      · rw [if_pos (by simpa using hf)] at h
        simp only [Prod.mk.injEq] at h
        exact absurd h.2.2 hf
    · rw [if_pos (by simpa using he)] at h
      simp only [Prod.mk.injEq] at h
      exact absurd h.2.2 he
  · rw [if_pos (by simpa using h0)] at h
    simp only [Prod.mk.injEq] at h
    exact absurd h.2.2 h0
theorem AppOK.stands {d : Dk} {g : Lg} {text : List Int} {D : Dk} {G : Lg} {P : Nat} (h : AppOK d g text D G P) : Stands D g text P := by
  obtain ⟨b1, b2, b3, b4, b5, b6, b7, b8, b9, b10⟩ := h.lg
  have hr := h.room
  have hfit := h.fit
  intro i hi
  refine ⟨(g.base + (g.pos + i)).toNat, by omega, by rw [h.len]; omega, ?_⟩
  rw [h.sees _ (by omega), if_pos (by omega)]
  have : ((((g.base + (g.pos + i)).toNat : Nat) : Int) - (g.base + g.pos)).toNat = i := by omega
  rw [this]
theorem Stands.keep {d D : Dk} {g : Lg} {text : List Int} {P : Nat} (h : Stands d g text P) (hl : D.dry.length = d.dry.length) (hs : ∀ k : Nat, g.base + g.pos ≤ k → (k : Int) < g.base + g.pos + P → sees D k = sees d k) : Stands D g text P := by
  intro i hi
  obtain ⟨n, h1, h2, h3⟩ := h i hi
  exact ⟨n, h1, by rw [hl]; exact h2, by rw [hs n (by omega) (by omega), h3]⟩
/-! ### When it may be -/
theorem go_can {g : Lg} {text : List Int} {P : Nat} : ∀ (n i : Nat) (d : Dk), checkOK d → d.dead = false → d.fuse = -1 → d.wet.length + n ≤ 8192 → 0 ≤ g.base + g.pos → g.base + g.pos + i + n ≤ (d.dry.length : Int) / 32 → (appGo g text P n i d).2 = 0
  | 0, _, _, _, _, _, _, _, _ => rfl
  | n + 1, i, d, h1, h2, h3, h4, h5, h6 => by
    have hc := chunk_len text i
    obtain ⟨m, hm⟩ : ∃ m : Nat, g.base + g.pos + (i : Int) = m := ⟨(g.base + g.pos + i).toNat, by omega⟩
    have he : writeE d (g.base + g.pos + i) (partB g i P (chunkOf text i)) = 0 := by
      rw [hm]
      exact write_can h1 h2 (part_length (by omega)) (by omega) (by omega) (by omega)
    obtain ⟨_, _, _, _, _, _, w7⟩ := write_zero he
    have w8 := write_ok he
    rw [appGo, if_pos he]
    refine go_can n (i + 1) _ w8.1 w8.2 (by rw [w7]; simp [h3]) (by rw [w7]; simp; omega) h5 ?_
    rw [wrote_dry he]; push_cast; omega
theorem app_can {d : Dk} {g : Lg} {text : List Int} (h1 : checkOK d) (h2 : d.dead = false) (h3 : d.fuse = -1) (h4 : d.wet = []) (hg : lgOK g) (hl : ¬ 65536 < text.length) (hr : g.base + g.size ≤ (d.dry.length : Int) / 32) (hf : needN text.length ≤ g.size - g.pos) (hn : g.n ≠ 262144) :
    ∃ D G, appR d g text = (D, G, 0) := by
  obtain ⟨P, hP, p1, p2, p3, p4⟩ := need_parts hl
  have h0 : app0 d g text.length = 0 := by
    unfold app0
    rw [if_neg (by simp [h1, hg]), if_neg hl, if_neg (by rw [there_yes h1 hg hr]; decide), if_neg (by omega)]
  obtain ⟨b1, b2, b3, b4, b5, b6, b7, b8, b9, b10⟩ := hg
  have hgo := go_can (g := g) (text := text) (P := P) P 0 d h1 h2 h3 (by rw [h4]; simp; omega) (by omega) (by push_cast; omega)
  obtain ⟨r, hr'⟩ : ∃ r, r = appGo g text P P 0 d := ⟨_, rfl⟩
  rw [← hr'] at hgo
  obtain ⟨D1, e⟩ := r
  simp only at hgo
  subst hgo
  obtain ⟨k1, k2, k3, k4, k5⟩ := go_zero P 0 d D1 hr'.symm h1 h2
  have hfl := flush_can k1 k2 (by rw [k4 h3]; decide)
  refine ⟨flushD D1, ⟨g.base, g.size, g.gen, g.pos + P, g.n + 1⟩, ?_⟩
  unfold appR
  rw [if_neg (by simp [h0]), hP, Int.toNat_natCast, ← hr']
  simp only
  rw [if_neg (by simp), if_neg (by simp [hfl])]
theorem app_full {d : Dk} {g : Lg} {text : List Int} (h1 : checkOK d) (hg : lgOK g) (hl : ¬ 65536 < text.length) (hr : g.base + g.size ≤ (d.dry.length : Int) / 32) (hf : g.size - g.pos < needN text.length ∨ g.n = 262144) : appR d g text = (dk0, lg0, 7) := by
  have h0 : app0 d g text.length = 7 := by
    unfold app0
    rw [if_neg (by simp [h1, hg]), if_neg hl, if_neg (by rw [there_yes h1 hg hr]; decide), if_pos hf]
  unfold appR
  rw [if_pos (by rw [h0]; decide), h0]
end Go.Proofs.Ytnmgiiaejpaeeaa
