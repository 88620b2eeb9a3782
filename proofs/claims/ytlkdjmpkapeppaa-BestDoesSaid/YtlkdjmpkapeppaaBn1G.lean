/- What is added one by one: plain laws for BestNearest and BestParts. -/
import Derived.Test.YtlkdjmpkapeppaaG3
namespace Go.Proofs.Ytlkdjmpkapeppaa
set_option linter.unusedVariables false
set_option linter.unusedSimpArgs false
theorem addX_zero {l : List Hit} {k : Int} {h : Hit} (h0 : addX l k h = 0) : okH l k ∧ fineH h ∧ (∀ x ∈ l, x.id ≠ h.id) ∧ addH l k h = addL l k.toNat h := by
  unfold addX at h0
  split at h0
  · rename_i hh
    split at h0
    · rename_i ht
      refine ⟨hh.1, hh.2, fun x hx => ?_, if_pos ⟨hh.1, hh.2, ht⟩⟩
      have := List.any_eq_false.1 ht x hx
      simpa using this
    · omega
  · omega
theorem wrap64 {x : Int} (h1 : 0 ≤ x) (h2 : x ≤ 9223372036854775807) : IntKind.i64.wrap x = x := by
  simp only [IntKind.wrap, IntKind.bits, IntKind.signed]
  simp
  omega
/-- l is a heap of the k nearest ones of S. -/
def InvN (l S : List Hit) (k : Int) : Prop := okH l k ∧ srt l = near k.toNat S ∧ l.length = min S.length k.toNat
theorem InvN.nil {k : Int} (h1 : 1 ≤ k) (h2 : k ≤ 256) : InvN [] [] k := ⟨⟨h1, h2, by simp; omega, by simp, by simp, fun k _ h => by simp at h⟩, by simp [near, srt], by simp⟩
theorem InvN.step {l S : List Hit} {k : Int} {h : Hit} (hI : InvN l S k) (hf : fineH h) (hn : ∀ x ∈ S, x.id ≠ h.id) : addX l k h = 0 ∧ InvN (addH l k h) (S ++ [h]) k := by
  obtain ⟨o, s, ln⟩ := hI
  have hl : ∀ x ∈ l, x.id ≠ h.id := fun x hx => hn x (near_sub (k := k.toNat) x (by rw [← s]; exact (srt_perm l).mem_iff.2 hx))
  have ht : l.any (fun x => decide (x.id = h.id)) = false := List.any_eq_false.2 fun x hx => by simpa using hl x hx
  obtain ⟨e1, e2⟩ := addX_ok o hf ht
  obtain ⟨a1, a2, a3⟩ := add_okH o hf hl
  rw [e2]
  refine ⟨e1, a1, grown_near s a2, ?_⟩
  rw [a3, ln]
  simp
  omega
theorem InvN.sorted {l S : List Hit} {k : Int} (hI : InvN l S k) : sortH l k = near k.toNat S ∧ chkE l k = 0 := by
  refine ⟨?_, if_pos hI.1⟩
  unfold sortH
  rw [if_pos hI.1]
  exact hI.2.1
/-- The hits of distances: each one's place is its id. -/
def Hn (far : List Int) (i : Nat) : Hit := ⟨far.getD i 0, i⟩
def upH (far : List Int) (i : Nat) : List Hit := (List.range i).map (Hn far)
def dnH (far : List Int) (i : Nat) : List Hit := (List.range i).map fun j => Hn far (far.length - 1 - j)
theorem upH_succ (far : List Int) (i : Nat) : upH far (i + 1) = upH far i ++ [Hn far i] := by simp [upH, List.range_succ]
theorem dnH_succ (far : List Int) (i : Nat) : dnH far (i + 1) = dnH far i ++ [Hn far (far.length - 1 - i)] := by simp [dnH, List.range_succ]
theorem upH_new {far : List Int} {i : Nat} : ∀ x ∈ upH far i, x.id ≠ (Hn far i).id := by
  intro x hx
  obtain ⟨j, hj, rfl⟩ := List.mem_map.1 hx
  have := List.mem_range.1 hj
  simp [Hn]
  omega
theorem dnH_new {far : List Int} {i : Nat} (hi : i < far.length) : ∀ x ∈ dnH far i, x.id ≠ (Hn far (far.length - 1 - i)).id := by
  intro x hx
  obtain ⟨j, hj, rfl⟩ := List.mem_map.1 hx
  have := List.mem_range.1 hj
  simp [Hn]
  omega
theorem dn_up (far : List Int) : (dnH far far.length).Perm (upH far far.length) := by
  have e : dnH far far.length = (upH far far.length).reverse := by
    apply List.ext_getElem
    · simp [dnH, upH]
    · intro i h1 h2
      simp [dnH, upH] at *
  rw [e]
  exact List.reverse_perm _
theorem fine_n {far : List Int} (hw : ∀ x ∈ far, 0 ≤ x ∧ x ≤ 65535) {i : Nat} (hi : i < far.length) (h1 : far.length ≤ 100) : fineH (Hn far i) := by
  have := hw (far.getD i 0) (by simp [List.getD, hi])
  unfold fineH Hn
  simp only
  omega
theorem upH_len (far : List Int) (i : Nat) : (upH far i).length = i := by simp [upH]
theorem dnH_len (far : List Int) (i : Nat) : (dnH far i).length = i := by simp [dnH]
theorem upH_nodup (far : List Int) : ∀ i, ((upH far i).map Hit.id).Nodup
  | 0 => by simp [upH]
  | i + 1 => by
    rw [upH_succ, List.map_append, List.nodup_append]
    refine ⟨upH_nodup far i, by simp, fun a ha b hb e => ?_⟩
    obtain ⟨x, hx, rfl⟩ := List.mem_map.1 ha
    simp at hb
    subst hb
    exact upH_new x hx e
/-- What the nearest ones of all are. -/
theorem near_up {far : List Int} {k n : Nat} {s : List Hit} (hs : s = near k (upH far n)) :
    (∀ i, i + 1 < s.length → (s.getD i hz).lt (s.getD (i + 1) hz)) ∧ (∀ i, i < s.length → ∃ j, j < n ∧ s.getD i hz = Hn far j) ∧ s.length = min k n ∧
    (∀ i, i < n → (i : Int) ∉ s.map Hit.id → s.length = k ∧ ∀ x ∈ s, ¬ (Hn far i).lt x) := by
  have hnd : (s.map Hit.id).Nodup := by
    have := ((srt_perm (upH far n)).map Hit.id).nodup_iff.2 (upH_nodup far n)
    rw [hs]
    unfold near
    rw [List.map_take]
    exact this.sublist (List.take_sublist _ _)
  have hst : s.Pairwise Hit.lt := asc_strict (by rw [hs]; exact near_asc _ _) hnd
  refine ⟨fun i hi => ?_, fun i hi => ?_, by rw [hs]; unfold near; rw [List.length_take, srt_length, upH_len], fun i hi hn => ?_⟩
  · have := List.pairwise_iff_getElem.1 hst i (i + 1) (by omega) hi (by omega)
    simpa [List.getD, hi, show i < s.length by omega] using this
  · have hm : s.getD i hz ∈ upH far n := near_sub (k := k) _ (by rw [← hs]; simp [List.getD, hi])
    obtain ⟨j, hj, e⟩ := List.mem_map.1 hm
    exact ⟨j, List.mem_range.1 hj, e.symm⟩
  · have hmem : Hn far i ∈ upH far n := List.mem_map.2 ⟨i, List.mem_range.2 hi, rfl⟩
    have hno : Hn far i ∉ near k (upH far n) := fun h => hn (List.mem_map.2 ⟨_, by rw [hs]; exact h, rfl⟩)
    have := near_rest hmem hno
    rw [hs]
    exact this
/-- Which ids are there. -/
def inF (s : List Hit) (i : Nat) : Int → Option Bool := fun z => if z ∈ (s.take i).map Hit.id then some true else none
theorem inF_zero (s : List Hit) : inF s 0 = fun _ => none := by funext z; simp [inF]
theorem inF_succ {s : List Hit} {i : Nat} (hi : i < s.length) {d : Int} (hd : s[i].id = d) : (fun z => if z = d then some true else inF s i z) = inF s (i + 1) := by
  funext z
  unfold inF
  rw [List.take_succ_eq_append_getElem hi, List.map_append, ← hd]
  by_cases h : z = s[i].id
  · simp [h]
  · simp [h]
theorem inF_all {s : List Hit} {z : Int} : (inF s s.length z).getD false = decide (z ∈ s.map Hit.id) := by
  unfold inF
  rw [List.take_length]
  by_cases h : z ∈ s.map Hit.id
  · rw [if_pos h, decide_eq_true h]; rfl
  · rw [if_neg h, decide_eq_false h]; rfl
end Go.Proofs.Ytlkdjmpkapeppaa
