/- best.Add's own row: read while it is own; what the law BestDoes says of lists alone. -/
import Derived.Test.YtlkdjmpkapeppaaBr3G
import Derived.Test.YtlkdjmpkapeppaaBn1G
import Derived.Test.YtlkdjmpkapeppaaIfG
namespace Go.Proofs.Ytlkdjmpkapeppaa
set_option linter.unusedVariables false
set_option linter.unusedSimpArgs false
open Go.RowKit Go.Shelf
section
variable {X : List Nat} {w0 w : World} {m0 m : Mem} {es : List Ent}
theorem St.rdRow (hS : St X w0 m0 w es m) (k : Nat) {q : Option Addr} {c : Nat} {R : List Hit} (he : es[k]? = some (rowQ q c R.length (cellsH R))) (hi : HitsIn R) (hb : R.length ≤ 1000) : hitL.list.rd (World.mem w) [.slice q R.length c] R := by
  obtain ⟨m', hS', _, hrd⟩ := St.settleRow' (L := hitL) hS k rfl he (hits_cellsOf m hi) (by show R.length * 16 ≤ _; omega)
  exact Lay.mono _ hS'.inw hrd
theorem St.rowOpen (hS : St X w0 m0 w es m) (k : Nat) {q : Option Addr} {c n : Nat} {cells : List Value} (he : es[k]? = some (rowQ q c n cells)) (hn : 0 < n) : ∃ g, q = some ⟨g, 0, none⟩ := by
  rcases (hS.row k he).2 with ⟨e, h0⟩ | ⟨g, cap, cur, e, _⟩
  · omega
  · cases e; exact ⟨_, rfl⟩
end
theorem letOwn {f : FuncId} {args : Array Value} {w : World} {m : Mem} {R : List Hit} {E : Int} (h : Calls Try.prog f args w (OwnHE w m R E)) :
    Calls Try.prog f args w (fun e w' => ∃ q c Y e', Hid (Y = R) ∧ Hid (e' = E) ∧ e = .returned (.tuple #[.slice q Y.length c, .int .i64 e']) ∧ Hid (HitsIn Y) ∧ St [] w m w' [rowQ q c Y.length (cellsH Y)] m) :=
  h.mono fun en w' ⟨q, c, h1, h2, h3⟩ => ⟨q, c, R, E, rfl, rfl, h1, h2, h3⟩
/-- Cells of hits: each one's first is a number. -/
def FarC (n : Nat) (cells : List Value) : Prop := cells.length = n * 2 ∧ ∀ j, j < n → ∃ d, cells[j * 2]? = some (.int .i64 d)
theorem FarC.of (R : List Hit) : FarC R.length (cellsH R) := by
  exact ⟨cellsH_len R, fun j hj => ⟨(R.getD j hz).dist, cellsH_get R j hj 0 _ rfl⟩⟩
theorem FarC.set {n : Nat} {cells : List Value} (h : FarC n cells) (k : Nat) (d : Int) : FarC n (cells.set (k * 2) (.int .i64 d)) := by
  refine ⟨by rw [List.length_set]; exact h.1, fun j hj => ?_⟩
  obtain ⟨e, he⟩ := h.2 j hj
  by_cases hk : k = j
  · subst hk
    have := (List.getElem?_eq_some_iff.1 he).1
    exact ⟨d, by rw [List.getElem?_set_self this]⟩
  · exact ⟨e, by rw [List.getElem?_set_ne (by omega)]; exact he⟩
theorem okH_self {l : List Hit} {k : Int} (h : okH l k) : InvN l l k := by
  have h1 := h.2.2.1
  refine ⟨h, ?_, by have := h.1; omega⟩
  unfold near
  rw [List.take_of_length_le (by rw [srt_length]; have := h.1; omega)]
theorem srt_addH (l : List Hit) (k : Int) (h : Hit) : srt (addH l k h) = raddL l k h := by
  by_cases h0 : addX l k h = 0
  · obtain ⟨o, hf, hn, e⟩ := addX_zero h0
    have := ((okH_self o).step hf hn).2.2.1
    rw [this]; unfold raddL; rw [if_pos h0]
  · unfold raddL addH
    rw [if_neg h0, if_neg]
    · rfl
    · intro hh; exact h0 (addX_ok hh.1 hh.2.1 hh.2.2).1
theorem chk_addH {l : List Hit} {k : Int} {h : Hit} (h0 : addX l k h = 0) : chkE (addH l k h) k = 0 := by
  obtain ⟨o, hf, hn, e⟩ := addX_zero h0
  exact if_pos ((okH_self o).step hf hn).2.1
theorem addX_is (l : List Hit) (k : Int) (h : Hit) : addX l k h = 0 ∨ addX l k h = 1 ∨ addX l k h = 6 := by
  unfold addX
  split
  · split
    · exact .inl rfl
    · exact .inr (.inr rfl)
  · exact .inr (.inl rfl)
end Go.Proofs.Ytlkdjmpkapeppaa
