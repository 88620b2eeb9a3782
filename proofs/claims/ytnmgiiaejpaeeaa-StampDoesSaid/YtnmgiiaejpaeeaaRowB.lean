/- How the arguments of a row are opened: slices of integers. -/
import Derived.Test.YtnmgiiaejpaeeaaB
import Derived.ProofKit
import Derived.OpenShut
import Derived.SizedLaws
namespace Go.Proofs.Ytnmgiiaejpaeeaa
set_option linter.unusedVariables false
set_option linter.unusedSimpArgs false
open Go.RowKit Go.ChangeShapes Go.WideShapes
theorem rd_opened {k : IntKind} {W : World} {x : Addr} {len cap : Nat} {zs : List Int} (hl : len ≤ cap) (hm : cap ≤ maxLen) (hz : zs.length = cap)
    (hc : ∀ i, i < zs.length → W.cell? (x.add i) = some (.int k (zs.getD i 0))) (hw : ∀ n ∈ zs, (Lit.int k n).wf = true) :
    ∃ xs : List Int, xs.length = len ∧ len ≤ cap ∧ cap ≤ maxLen ∧ Rd k W (some x) xs ∧ ∀ x ∈ xs, (Lit.int k x).wf = true := by
  refine ⟨zs.take len, by simp; omega, hl, hm, fun h0 => ?_, fun y hy => hw y (List.mem_of_mem_take hy)⟩
  simp at h0
  obtain ⟨b, o, s⟩ := x
  obtain rfl : s = none := by simpa [Addr.add] using World.cell?_spot (hc 0 (by omega))
  refine ⟨b, o, rfl, fun i hi => ?_⟩
  simp at hi
  rw [← Addr.add_lit, hc i (by omega)]
  simp [List.getD, List.getElem?_take, show i < len by omega]
theorem sized_rd {H : Type} {enc : TypeId × Value → H} {P : Program} {W : World} {base : Nat} {spare : Nat → Bool} {held : Bool} {t e : TypeId} {k : IntKind} {a : Option Addr} {len cap : Nat} {d : DataW H} {ps : List MemPlace} {ts : List TypeId} {ds : List (DataW H)} {j : Nat}
    (hsz : (DataW.weightsEach P ts ds).all (· ≤ reachBytes) = true) (ht : ts[j]? = some t) (hd : ds[j]? = some d) (hu : P.underlying t = some (.slice e)) (he : P.underlying e = some (.int k)) (hc : P.cellsOf e = 1) {B : Nat} (hB : P.bytesOf e = B)
    (h : DataW.Trod enc P W base spare held t (.slice a len cap) d ps) : len * B ≤ 140737488351232 := by
  obtain ⟨fuel, hf⟩ := h
  rcases open_ints hu he hc hf with ⟨hcs, _⟩ | ⟨x, l, c, zs, hcs, _, hl, _, hz, hx, _, _⟩
  · simp [Value.cells] at hcs
    obtain ⟨rfl, rfl, rfl⟩ := hcs
    simp
  · simp [Value.cells] at hcs
    obtain ⟨rfl, rfl, rfl⟩ := hcs
    obtain ⟨rfl, _⟩ := Prod.mk.inj hx
    have z := sized_slice hsz ht hd hu
    rw [hB] at z
    have h2 : len ≤ zs.length := by rw [hz]; split <;> omega
    have h1 : (lits (H := H) k (zs.take len)).length + (lits (H := H) k (zs.drop len)).length = zs.length := by simp [lits]; omega
    rw [h1] at z
    exact Nat.le_trans (Nat.mul_le_mul_right _ h2) z
theorem isB_of_wf {xs : List Int} (h : ∀ x ∈ xs, (Lit.int .u8 x).wf = true) : IsB xs := fun x hx => by
  have := h x hx
  simp [Lit.wf, IntKind.min, IntKind.max, IntKind.signed, IntKind.bits] at this
  omega
end Go.Proofs.Ytnmgiiaejpaeeaa
