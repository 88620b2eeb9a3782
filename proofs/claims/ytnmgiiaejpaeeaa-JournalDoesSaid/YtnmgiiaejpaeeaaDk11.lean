/- slices.Backward over the writes of a disk: its contract. -/
import Derived.Test.YtnmgiiaejpaeeaaDk10
namespace Go.Proofs.Ytnmgiiaejpaeeaa
set_option linter.unusedVariables false
set_option linter.unusedSimpArgs false
open Go.RowKit Go.Shelf
attribute [local go_sem] Oper.semAt_some
set_option maxRecDepth 100000 in
set_option maxHeartbeats 2000000 in
theorem back1_nil (F : Fence) (n : Nat) (h7 : F.fn 95) (hro : F.round = none) (l Bs : Nat) (q : Option Addr) (cap : Nat) {α : Type} (J : List α → World → Prop) (W : World)
    (hBs : W.cell? ⟨Bs, 0, none⟩ = some (.slice q 0 cap)) (h0 : J [] W) :
    CallsIn F n Try.prog 95 #[.func (.yield l) #[] #[], .pointer (some ⟨Bs, 0, none⟩)] W fun e W' => (∃ v, e = .returned v) ∧ J [] W' := by
  refine callsIn_of_wp Try.func95 rfl h7 ?_ hro
  simp only [Try.ntmps95, List.size_toArray, List.length_cons, List.length_nil, Nat.reduceAdd, Nat.reduceSub, Array.replicate_succ, Array.replicate_zero, List.push_toArray, List.append_toArray, List.nil_append, List.cons_append]
  gi_wp2
  gi_loopw [3] (fun i wr => i = .int .i64 (-1) ∧ J [] wr) (fun _ _ => 0)
  case atStart => exact ⟨rfl, h0⟩
  case round =>
    obtain ⟨rfl, hJs⟩ := hrel
    gi_wp2
    go_end0
    exact ⟨⟨_, rfl⟩, hJs⟩
set_option maxHeartbeats 1000000 in
theorem back_in (F : Fence) (n : Nat) (h5 : F.fn 79) (hro : F.round = none) (a : Option Addr) (len cap : Nat) (w : World) :
    CallsIn F n Try.prog 79 #[.slice a len cap] w fun e w' => e = .returned (.func (.func 95) #[] #[.pointer (some ⟨w.heap.size, 0, none⟩)]) ∧ w' = w.alloc (.cells #[.slice a len cap] 42) := by
  refine callsIn_of_wp Try.func79 rfl h5 ?_ hro
  simp only [Try.ntmps79, List.size_toArray, List.length_cons, List.length_nil, Nat.reduceAdd, Nat.reduceSub, Array.replicate_succ, Array.replicate_zero, List.push_toArray, List.append_toArray, List.nil_append, List.cons_append]
  gi_wp2
  go_ret
  exact ⟨rfl, rfl⟩
theorem upto_rev {w0 : World} (ws : List Wr) (g : Nat → Elt w0) (hg : ∀ m k, m + 1 + k = ws.length → ws[m]? = some (g k).x) (k : Nat) (hk : k ≤ ws.length) : (upto g k).map (·.x) = ws.reverse.take k := by
  apply List.ext_getElem?
  intro i
  by_cases hi : i < k
  · rw [List.getElem?_take_of_lt hi, List.getElem?_reverse (by omega), hg (ws.length - 1 - i) i (by omega)]
    simp [upto, hi]
  · rw [List.getElem?_eq_none (by simp [upto]; omega), List.getElem?_eq_none (by simp; omega)]
theorem back_stops (F : Fence) (n : Nat) (h7 : F.fn 95) (hro : F.round = none) (hn : 1 ≤ n) (Bs n₀ : Nat) (q : Option Addr) (cap : Nat) (ws : List Wr) (hreach : ws.length ≤ 8192) (w0 w : World) (hr : RdW w0 q ws) (hlen : ∀ x ∈ ws, x.b.length ≤ 140737488355328) (hb0 : Below w0.heap.size w0 w)
    (hBs : Bs < n₀) (hn₀ : n₀ ≤ w.heap.size) (h0n : w0.heap.size ≤ n₀) (hc : w.cell? ⟨Bs, 0, none⟩ = some (.slice q ws.length cap)) :
    SeqStopsK F n Try.prog 95 #[.pointer (some ⟨Bs, 0, none⟩)] (fun x : Elt w0 => #[.int .i64 (x.i : Int), .agg #[.int .i64 x.x.pos, .slice x.q x.x.b.length x.c]]) (Below n₀) (fun ys => ys.map (·.x) = ws.reverse) (fun pre => pre.map (·.x) <+: ws.reverse) ws.length w := fun l J Jx W hW _ _ hY h0 => by
  have hc' := (hW.cell (p := ⟨Bs, 0, none⟩) (by show Bs < _; omega)).trans hc
  rcases Nat.eq_zero_or_pos ws.length with hz | hpos
  · have : ws = [] := List.eq_nil_of_length_eq_zero hz
    subst this
    exact (back1_nil F n h7 hro l Bs q cap J W hc' h0).mono fun e W' ⟨he, hj⟩ => ⟨he, .inl ⟨_, rfl, hj⟩⟩
  · obtain ⟨b, o, rfl, hcell⟩ := hr hpos
    have hex : ∀ k, ∃ e : Elt w0, ∀ m, m + 1 + k = ws.length → e.i = m ∧ ws[m]? = some e.x ∧ w0.cell? ⟨b, o + m * 2, none⟩ = some (.int .i64 e.x.pos) ∧ w0.cell? ⟨b, o + m * 2 + 1, none⟩ = some (.slice e.q e.x.b.length e.c) := fun k => by
      by_cases hk : k < ws.length
      · have hm : ws.length - 1 - k < ws.length := by omega
        obtain ⟨c1, q', c', c2, c3, c4, c5⟩ := hcell _ _ (List.getElem?_eq_getElem hm)
        refine ⟨⟨ws.length - 1 - k, ws[ws.length - 1 - k], q', c', c3, c4, c5, hlen _ (List.getElem_mem hm)⟩, fun m hm' => ?_⟩
        obtain rfl : m = ws.length - 1 - k := by omega
        exact ⟨rfl, List.getElem?_eq_getElem hm, c1, c2⟩
      · exact ⟨⟨0, ⟨0, []⟩, none, 0, Nat.le_refl _, by simp [maxLen], Rd.nil _ _ _, by simp⟩, fun m hm => by omega⟩
    obtain ⟨g, hg⟩ := Classical.axiomOfChoice hex
    have hbl : b < w0.heap.size := by
      obtain ⟨c1, _⟩ := hcell 0 _ (List.getElem?_eq_getElem hpos)
      exact World.block_lt_of_cell? w0 _ c1
    have hx : ∀ {a : Addr} {v : Value}, w0.cell? a = some v → W.cell? a = some v := fun h => by
      have h1 := cell_below hb0 h
      exact cell_below hW h1
    refine (back1_in F n h7 hro hn l Bs n₀ b o cap ws.length w0 hreach (by omega) g (fun m k h => (hg k m h).1) J Jx hY W hc' hBs (fun m k h => ⟨hx (hg k m h).2.2.1, hx (hg k m h).2.2.2⟩) h0).mono ?_
    rintro e W' ⟨he, ⟨ys, rfl, hj⟩ | ⟨pre, ⟨k, hk, rfl⟩, hj⟩⟩
    · refine ⟨he, .inl ⟨_, ?_, hj⟩⟩
      show (upto g ws.length).map (·.x) = _
      rw [upto_rev ws g (fun m k h => (hg k m h).2.1) _ (Nat.le_refl _), List.take_of_length_le (by simp)]
    · refine ⟨he, .inr ⟨_, ?_, hj⟩⟩
      show (upto g k).map (·.x) <+: _
      rw [upto_rev ws g (fun m k h => (hg k m h).2.1) _ hk]
      exact List.take_prefix _ _
end Go.Proofs.Ytnmgiiaejpaeeaa
