/- Plain laws of journals: whenever the disk ends. -/
import Derived.Test.YtnmgiiaejpaeeaaJp4G
namespace Go.Proofs.Ytnmgiiaejpaeeaa
set_option linter.unusedVariables false
set_option linter.unusedSimpArgs false
open Go.RowKit
theorem JInv.same {d C : Dk} {N : Nat} {b s gen q : Int} {l : List (List Int)} (h : JInv d N b s gen l q) (h1 : checkOK C) (h2 : C.dead = false) (h3 : C.wet = []) (h4 : C.dry.length = d.dry.length) (hs : ∀ k : Nat, (k : Int) < b + s → sees C k = sees d k) : JInv C N b s gen l q := by
  have hq : q ≤ s := h.lg.2.2.2.2.2.2.2.1
  exact ⟨h1, h2, h3, by rw [h4, h.len], h.lg, h.room, h.laid.keep h4 fun k k1 k2 => hs k (by omega), fun k k1 k2 => by rw [hs k k2]; exact h.none k k1 k2⟩
structure CInv (d : Dk) (g : Lg) (l : List (List Int)) : Prop where
  inv : ∃ q, JInv d 150 0 150 4 l q ∧ g = ⟨0, 150, 4, q, (l.length : Int)⟩ ∧ NoTail d q 150 4
/-- What is read behind a crash is the ones, or the others. -/
def CEnd (D : Dk) (dn wt : List (List Int)) : Prop := checkOK D ∧ ∀ keep, scanE (crashD D keep) 0 150 4 = 0 ∧ (scanT (crashD D keep) 0 150 4 = dn ∨ scanT (crashD D keep) 0 150 4 = wt)
theorem CInv.ends {d : Dk} {g : Lg} {l : List (List Int)} (h : CInv d g l) (hl : l.length ≤ 30) (wt : List (List Int)) : CEnd d l wt := by
  obtain ⟨q, hj, rfl, ht⟩ := h.inv
  refine ⟨hj.ok, fun keep => ?_⟩
  obtain ⟨c1, c2, c3, c4, c5⟩ := crash_sees hj.ok keep
  have hC := hj.same c1 c2 c3 c4 fun k _ => by rw [c5, hj.wet]; exact (sees_dry hj.wet k).symm
  obtain ⟨e1, e2, _⟩ := hC.scan (by omega)
  exact ⟨e1, .inl e2⟩
theorem CInv.next {d D : Dk} {g G : Lg} {l : List (List Int)} {t : List Int} {P : Nat} (h : CInv d g l) (ha : AppOK d g t D G P) : CInv D G (l ++ [t]) := by
  obtain ⟨q, hj, rfl, ht⟩ := h.inv
  obtain ⟨k1, k2⟩ := hj.next ha
  have hlen := hj.len
  have h0 : 0 ≤ q := hj.lg.2.2.2.2.2.2.1
  exact ⟨⟨_, k1, k2, ha.tailKeep (ht.sub (by omega) (Int.le_refl _)) (by simp only; omega) (by omega) (by omega)⟩⟩
theorem sees_isB {d : Dk} (h : Octets d) (n : Nat) : IsB (sees d n) := by
  unfold sees
  cases e : lastOf (n : Int) d.wet.reverse with
  | none => exact fun x hx => inK8 (h.1 x (List.mem_of_mem_take (List.mem_of_mem_drop hx)))
  | some b =>
    obtain ⟨y, hy, rfl⟩ := lastOf_mem e
    exact fun x hx => inK8 (h.2 y (by simpa using hy) x hx)
theorem CInv.dead {d D : Dk} {g : Lg} {l : List (List Int)} {t : List Int} {P j : Nat} (h : CInv d g l) (hl : l.length ≤ 30) (ho : Octets d) (hb : IsB t) (hlong : ¬ 65536 < t.length) (hP : needN t.length = P) (hj : j ≤ P) (hfit : g.pos + P ≤ g.size) (h1 : D.dry = d.dry) (h2 : D.wet = wlist g t P j 0) (h3 : checkOK D) : CEnd D l (l ++ [t]) := by
  obtain ⟨q, hJ, rfl, ht⟩ := h.inv
  refine ⟨h3, fun keep => ?_⟩
  obtain ⟨c1, c2, c3, c4, c5⟩ := crash_sees h3 keep
  have hlen := hJ.len
  have hg := hJ.lg
  obtain ⟨b1, b2, b3, b4, b5, b6, b7, b8, b9, b10⟩ := id hg
  simp only at b1 b2 b3 b4 b5 b6 b7 b8 b9 b10 hfit
  obtain ⟨P', e', p1, p2, p3, p4⟩ := need_parts hlong
  obtain rfl : P' = P := by omega
  have hs : ∀ k, sees (crashD D keep) k = settleS (keepN keep) 0 (wlist ⟨0, 150, 4, q, (l.length : Int)⟩ t P' j 0) k (sees d k) := fun k => by rw [c5, h2, h1, sees_dry hJ.wet]
  have hlen2 : (crashD D keep).dry.length = 150 * 32 := by rw [c4, h1, hlen]
  generalize crashD D keep = C at *
  have hout : ∀ k : Nat, ¬ (q ≤ (k : Int) ∧ (k : Int) < q + j) → sees C k = sees d k := fun k hk => by
    rw [hs, settle_wlist, if_neg (by simp only; omega)]
  have hr : (0 : Int) + 150 ≤ (C.dry.length : Int) / 32 := by omega
  have hL : Laid C 0 150 4 0 0 l q := hJ.laid.keep (by rw [hlen2, hlen]) fun k k1 k2 => hout k (by omega)
  have hl0 : lgOK ⟨0, 150, 4, 0, 0⟩ := by simp only [lgOK]; omega
  by_cases hall : ∀ i : Nat, i < P' → sees C (q + i).toNat = partB ⟨0, 150, 4, q, (l.length : Int)⟩ i P' (chunkOf t i)
  · have hst : Stands C ⟨0, 150, 4, q, (l.length : Int)⟩ t P' := fun i hi => ⟨(q + i).toNat, by simp only; omega, by omega, hall i hi⟩
    have hL2 := hL.snoc hlong hP (by simpa using hg) hfit (by simpa using hst)
    have hJ2 : JInv C 150 0 150 4 (l ++ [t]) (q + P') := ⟨c1, c2, c3, hlen2, by simp only [lgOK, List.length_append, List.length_cons, List.length_nil]; omega, by omega, hL2, fun k k1 k2 => by rw [hout k (by omega)]; exact hJ.none k (by omega) k2⟩
    obtain ⟨e1, e2, _⟩ := hJ2.scan (by simp; omega)
    exact ⟨e1, .inr e2⟩
  · have hex : ∃ i : Nat, i < P' ∧ sees C (q + i).toNat ≠ partB ⟨0, 150, 4, q, (l.length : Int)⟩ i P' (chunkOf t i) := by
      apply Classical.byContradiction
      intro hne
      exact hall fun i hi => Classical.byContradiction fun hh => hne ⟨i, hi, hh⟩
    obtain ⟨i, ⟨hi, hne⟩, hmin⟩ : ∃ i : Nat, (i < P' ∧ sees C (q + i).toNat ≠ partB ⟨0, 150, 4, q, (l.length : Int)⟩ i P' (chunkOf t i)) ∧ ∀ m, m < i → ¬ (m < P' ∧ sees C (q + m).toNat ≠ partB ⟨0, 150, 4, q, (l.length : Int)⟩ m P' (chunkOf t m)) := by
      obtain ⟨i0, h0⟩ := hex
      induction i0 using Nat.strongRecOn with
      | _ n ih =>
        by_cases hlt : ∃ m, m < n ∧ (m < P' ∧ sees C (q + m).toNat ≠ partB ⟨0, 150, 4, q, (l.length : Int)⟩ m P' (chunkOf t m))
        · obtain ⟨m, hm, h0'⟩ := hlt
          exact ih m hm h0'
        · exact ⟨n, h0, fun m hm hh => hlt ⟨m, hm, hh⟩⟩
    have hc := chunk_len t i
    have hnone : groupR C ⟨0, 150, 4, q, (l.length : Int)⟩ = none := by
      refine torn_from (text := t) (P := P') (j := i) c1 c2 hg (by omega) hi (fun m hm => ⟨(q + m).toNat, by simp only; omega, by omega, ?_⟩) (fun _ => ?_) i 0 4097 0 [] (by omega) (fun hh => absurd rfl hh)
      · exact Classical.byContradiction fun hh => hmin m hm ⟨by omega, hh⟩
      · refine piece_not (n := (q + i).toNat) c1 c2 (by simp only; omega) (by omega) fun hh => hne ?_
        obtain ⟨z1, z2⟩ := hh
        by_cases hij : i < j
        · have e := hs (q + i).toNat
          rw [settle_wlist, if_pos (by simp only; omega)] at e
          simp only at e
          rw [show (((q + (i : Int)).toNat : Nat) : Int) - (0 + q) = i by omega, Int.toNat_natCast] at e
          have hpl : (partB ⟨0, 150, 4, q, (l.length : Int)⟩ i P' (chunkOf t i)).length = 32 := part_length (by omega)
          have hkl := keepN_le keep (0 + (i - 0))
          generalize keepN keep (0 + (i - 0)) = c at *
          have htl : ((partB ⟨0, 150, 4, q, (l.length : Int)⟩ i P' (chunkOf t i)).take c).length = c := by rw [List.length_take, hpl]; omega
          rw [htl] at e
          have hN : openN (sees C (q + i).toNat) = un8 (sees C (q + i).toNat) := if_pos z1
          rw [hN, e] at z2
          rw [e] at z1
          rw [e]
          have s1 := stamp_ok hg
          refine new_ways (n := stampOf ⟨0, 150, 4, q, (l.length : Int)⟩) (pay := partPay i P' (chunkOf t i)) hkl ⟨s1.1, s1.2, pay_len (by omega)⟩ (sees_length hJ.ok (by omega)) (sees_isB ho _) ?_ z1 z2 (ht _ (by omega) (by omega) _ hg rfl)
          unfold partPay
          refine IsB.append (fun x hx => ?_) (chunk_isB hb i)
          simp only [List.mem_cons, List.mem_nil_iff, or_false] at hx
          omega
        · rw [hout _ (by omega)] at z1 z2
          exfalso
          refine hJ.none _ (by omega) (by omega) z1 ?_
          rw [z2, stamp_div hg]
    obtain ⟨e1, e2, _⟩ := scan_laid c1 c2 hr hl0 hL b8 hnone (by omega)
    exact ⟨e1, .inl e2⟩
theorem CInv.step {d D : Dk} {g G : Lg} {l : List (List Int)} {t : List Int} {e : Int} (h : CInv d g l) (hl : l.length ≤ 30) (ho : Octets d) (hb : IsB t) (ht : t.length ≤ 200) (he : appR d g t = (D, G, e)) :
    (e = 0 ∧ CInv D G (l ++ [t])) ∨ e = 7 ∨ (e = 11 ∧ CEnd D l (l ++ [t])) := by
  obtain ⟨q, hJ, hg, hT⟩ := h.inv
  have hlen := hJ.len
  have hlg : lgOK g := by rw [hg]; exact hJ.lg
  rcases app_ends he hJ.ok hJ.live hJ.wet hlg (by omega) (by rw [hg]; simp only; omega) with k | k | ⟨k, P, j, k1, k2, k3, k4, k5, k6⟩
  · subst k
    obtain ⟨P, ha⟩ := app_ok he
    exact .inl ⟨rfl, h.next ha⟩
  · exact .inr (.inl k)
  · exact .inr (.inr ⟨k, h.dead hl ho hb (by omega) k1 k2 k3 k4 k5 k6⟩)
end Go.Proofs.Ytnmgiiaejpaeeaa
