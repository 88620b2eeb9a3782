/- Contracts and plain laws that the laws' proofs use, laid together (part 2). -/
import Derived.Test.YtlkdjmpkapeppaaG1
import Derived.Test.YtlkdjmpkapeppaaShelf
import Derived.Shelf.Abstract
import Derived.RangeFuncNested
import Derived.RangeFuncBound
import Derived.RangeFuncCalls
import Derived.RangeFuncLeaves
import Derived.Shelf.RegionOpen
import Derived.WalkKit
import Derived.OwnWalkIn
import Derived.TacticsInMore
import Derived.LoopNIn
import Derived.LoopIn
import Derived.Sort.Grow
import Derived.Deep.Draws
/- The nearest hits: plain laws. -/
namespace Go.Proofs.Ytlkdjmpkapeppaa
set_option linter.unusedVariables false
set_option linter.unusedSimpArgs false
/-- A hit laid among sorted ones. -/
def insH (h : Hit) : List Hit → List Hit
  | [] => [h]
  | x :: l => if x.lt h then x :: insH h l else h :: x :: l
/-- Hits in order. -/
def srt : List Hit → List Hit
  | [] => []
  | h :: l => insH h (srt l)
def Asc (l : List Hit) : Prop := l.Pairwise fun a b => ¬ b.lt a
theorem insH_perm (h : Hit) : ∀ l, (insH h l).Perm (h :: l)
  | [] => .refl _
  | x :: l => by
    unfold insH
    split
    · exact (List.Perm.cons x (insH_perm h l)).trans (List.Perm.swap h x l)
    · exact .refl _
theorem srt_perm : ∀ l, (srt l).Perm l
  | [] => .refl _
  | h :: l => (insH_perm h (srt l)).trans (List.Perm.cons h (srt_perm l))
theorem insH_asc {h : Hit} : ∀ {l : List Hit}, Asc l → Asc (insH h l)
  | [], _ => by simp [insH, Asc]
  | x :: l, hl => by
    obtain ⟨h1, h2⟩ := List.pairwise_cons.1 hl
    unfold insH
    split
    · rename_i hx
      refine List.pairwise_cons.2 ⟨fun y hy => ?_, insH_asc h2⟩
      rcases List.mem_cons.1 ((insH_perm h l).mem_iff.1 hy) with rfl | hy
      · exact Hit.asymm hx
      · exact h1 y hy
    · rename_i hx
      refine List.pairwise_cons.2 ⟨fun y hy => ?_, hl⟩
      rcases List.mem_cons.1 hy with rfl | hy
      · exact hx
      · exact Hit.le_trans hx (h1 y hy)
theorem srt_asc : ∀ l, Asc (srt l)
  | [] => .nil
  | h :: l => insH_asc (srt_asc l)
/-- Sorted, and the same hits: the same. -/
theorem asc_unique : ∀ {l r : List Hit}, Asc l → Asc r → l.Perm r → l = r
  | [], r, _, _, hp => by rw [List.Perm.nil_eq hp]
  | x :: l, [], _, _, hp => by have := hp.length_eq; simp at this
  | x :: l, y :: r, hl, hr, hp => by
    obtain ⟨h1, h2⟩ := List.pairwise_cons.1 hl
    obtain ⟨k1, k2⟩ := List.pairwise_cons.1 hr
    have hxy : x = y := by
      have hx : x ∈ y :: r := hp.mem_iff.1 (by simp)
      have hy : y ∈ x :: l := hp.mem_iff.2 (by simp)
      rcases List.mem_cons.1 hx with e | hx
      · exact e
      · rcases List.mem_cons.1 hy with e | hy
        · exact e.symm
        · exact Hit.tri (k1 x hx) (h1 y hy) |>.symm ▸ rfl
    subst hxy
    rw [asc_unique h2 k2 (List.Perm.cons_inv hp)]
theorem srt_eq {l r : List Hit} (h : Asc r) (hp : r.Perm l) : r = srt l := asc_unique h (srt_asc l) (hp.trans (srt_perm l).symm)
theorem srt_congr {l r : List Hit} (hp : l.Perm r) : srt l = srt r := srt_eq (srt_asc l) ((srt_perm l).trans hp)
theorem srt_length (l : List Hit) : (srt l).length = l.length := (srt_perm l).length_eq
theorem srt_snoc (l : List Hit) (h : Hit) : srt (l ++ [h]) = insH h (srt l) := by
  have : (l ++ [h]).Perm (h :: l) := List.perm_append_comm
  rw [srt_congr this]
  rfl
theorem take_insH (h : Hit) : ∀ (l : List Hit) (k : Nat), (insH h (l.take k)).take k = (insH h l).take k
  | _, 0 => by simp
  | [], k + 1 => by simp
  | x :: l, k + 1 => by
    rw [List.take_succ_cons]
    unfold insH
    split
    · rw [List.take_succ_cons, List.take_succ_cons, take_insH h l k]
    · rw [List.take_succ_cons, List.take_succ_cons]
      congr 1
      cases k with
      | zero => simp
      | succ k => rw [List.take_succ_cons, List.take_succ_cons, List.take_take]; congr 2; omega
/-- The k nearest ones. -/
def near (k : Nat) (l : List Hit) : List Hit := (srt l).take k
theorem near_congr {k : Nat} {l r : List Hit} (hp : l.Perm r) : near k l = near k r := by unfold near; rw [srt_congr hp]
theorem near_snoc (k : Nat) (l : List Hit) (h : Hit) : near k (l ++ [h]) = (insH h (near k l)).take k := by
  unfold near; rw [srt_snoc, take_insH]
theorem near_asc (k : Nat) (l : List Hit) : Asc (near k l) := (srt_asc l).sublist (List.take_sublist _ _)
theorem srt_near (k : Nat) (l : List Hit) : srt (near k l) = near k l := (srt_eq (near_asc k l) (.refl _)).symm
theorem near_near_snoc (k : Nat) (l : List Hit) (h : Hit) : near k (near k l ++ [h]) = near k (l ++ [h]) := by
  rw [near_snoc, near_snoc]
  congr 2
  unfold near
  rw [show srt ((srt l).take k) = (srt l).take k from srt_near k l, List.take_take, Nat.min_self]
/-- Whatever is added behind: the nearest ones of what was there are enough. -/
theorem near_near (k : Nat) (l : List Hit) : near k (near k l) = near k l := by
  show (srt (near k l)).take k = _
  rw [srt_near]
  unfold near
  rw [List.take_take, Nat.min_self]
theorem near_append (k : Nat) : ∀ (r l : List Hit), near k (near k l ++ r) = near k (l ++ r)
  | [], l => by rw [List.append_nil, List.append_nil, near_near]
  | h :: r, l => by
    have e : ∀ x : List Hit, x ++ h :: r = (x ++ [h]) ++ r := fun x => by simp
    rw [e, e, ← near_append k r (near k l ++ [h]), near_near_snoc, near_append k r (l ++ [h])]
theorem near_both (k : Nat) (l r : List Hit) : near k (near k l ++ near k r) = near k (l ++ r) := by
  rw [near_append, near_congr (List.perm_append_comm (l₁ := l) (l₂ := near k r)), near_append, near_congr List.perm_append_comm]
/-- A hit more, of k at most. -/
def addL (l : List Hit) (k : Nat) (h : Hit) : List Hit := if k < (pushL l h).length then popL (pushL l h) else pushL l h
theorem add_ok {l : List Hit} {k : Nat} {h : Hit} (hh : Heap l l.length) (hl : l.length ≤ k) (hk : 1 ≤ k) : srt (addL l k h) = (srt (l ++ [h])).take k ∧ (addL l k h).length = min (l.length + 1) k ∧ Heap (addL l k h) (addL l k h).length := by
  obtain ⟨p1, p2, p3⟩ := push_ok (h := h) hh
  unfold addL
  by_cases hlt : k < (pushL l h).length
  · rw [if_pos hlt]
    obtain ⟨q1, q2, q3⟩ := pop_ok (l := pushL l h) (by omega) (by rw [p2]; exact p3)
    have hk2 : l.length = k := by omega
    refine ⟨?_, by omega, by rw [q2]; exact q3⟩
    have htop := Heap.top (by rw [p2]; exact p3 : Heap (pushL l h) (pushL l h).length)
    have hs : srt (pushL l h) = srt (popL (pushL l h)) ++ [(pushL l h).getD 0 hz] := by
      refine (srt_eq ?_ ?_).symm
      · refine List.pairwise_append.2 ⟨srt_asc _, by simp, fun a ha b hb => ?_⟩
        obtain rfl : b = (pushL l h).getD 0 hz := by simpa using hb
        have ha' : a ∈ pushL l h := q1.mem_iff.1 (List.mem_append.2 (.inl ((srt_perm _).mem_iff.1 ha)))
        obtain ⟨m, hm, rfl⟩ := List.getElem_of_mem ha'
        have := htop m hm
        rwa [show (pushL l h).getD m hz = (pushL l h)[m] by simp [List.getD, hm]] at this
      · exact (List.Perm.append_right _ (srt_perm _)).trans q1
    rw [← srt_congr p1, hs, List.take_append_of_le_length (by rw [srt_length, q2]; omega), List.take_of_length_le (by rw [srt_length, q2]; omega)]
  · rw [if_neg hlt]
    refine ⟨?_, by omega, by rw [p2]; exact p3⟩
    rw [srt_congr p1, List.take_of_length_le (by rw [srt_length]; simp; omega)]
end Go.Proofs.Ytlkdjmpkapeppaa
/- Heaps that may be, and what is added: plain laws for the laws of layer 16. -/
namespace Go.Proofs.Ytlkdjmpkapeppaa
set_option linter.unusedVariables false
set_option linter.unusedSimpArgs false
def fineH (h : Hit) : Prop := 0 ≤ h.dist ∧ 0 ≤ h.id ∧ h.id ≤ 2147483647
instance (h : Hit) : Decidable (fineH h) := inferInstanceAs (Decidable (_ ∧ _))
def okH (l : List Hit) (k : Int) : Prop := 1 ≤ k ∧ k ≤ 256 ∧ (l.length : Int) ≤ k ∧ (∀ h ∈ l, fineH h) ∧ (l.map Hit.id).Nodup ∧ Heap l l.length
def addE (l : List Hit) (k : Int) (h : Hit) : Prop := okH l k ∧ fineH h
theorem pushed {l : List Hit} {k : Nat} {h : Hit} (hh : Heap l l.length) : ∀ x ∈ addL l k h, x ∈ l ∨ x = h := by
  obtain ⟨p1, p2, p3⟩ := push_ok (h := h) hh
  intro x hx
  have hx' : x ∈ pushL l h := by
    unfold addL at hx
    split at hx
    · obtain ⟨q1, _, _⟩ := pop_ok (l := pushL l h) (by omega) (by rw [p2]; exact p3)
      exact q1.mem_iff.1 (List.mem_append.2 (.inl hx))
    · exact hx
  rcases List.mem_append.1 (p1.mem_iff.1 hx') with h1 | h1
  · exact .inl h1
  · exact .inr (by simpa using h1)
theorem add_nodup {l : List Hit} {k : Nat} {h : Hit} (hh : Heap l l.length) (hd : (l.map Hit.id).Nodup) (hn : ∀ x ∈ l, x.id ≠ h.id) : ((addL l k h).map Hit.id).Nodup := by
  obtain ⟨p1, p2, p3⟩ := push_ok (h := h) hh
  have h1 : ((l ++ [h]).map Hit.id).Nodup := by
    rw [List.map_append, List.nodup_append]
    refine ⟨hd, by simp, fun a ha b hb e => ?_⟩
    obtain ⟨x, hx, rfl⟩ := List.mem_map.1 ha
    simp at hb
    subst hb
    exact hn x hx e
  have h2 : ((pushL l h).map Hit.id).Nodup := (p1.map Hit.id).nodup_iff.2 h1
  unfold addL
  split
  · obtain ⟨q1, _, _⟩ := pop_ok (l := pushL l h) (by omega) (by rw [p2]; exact p3)
    have h3 := (q1.map Hit.id).nodup_iff.2 h2
    rw [List.map_append, List.nodup_append] at h3
    exact h3.1
  · exact h2
theorem add_okH {l : List Hit} {k : Int} {h : Hit} (ho : okH l k) (hf : fineH h) (hn : ∀ x ∈ l, x.id ≠ h.id) : okH (addL l k.toNat h) k ∧ srt (addL l k.toNat h) = near k.toNat (l ++ [h]) ∧ (addL l k.toNat h).length = min (l.length + 1) k.toNat := by
  obtain ⟨h1, h2, h3, h4, h5, h6⟩ := ho
  obtain ⟨a1, a2, a3⟩ := add_ok (h := h) h6 (show l.length ≤ k.toNat by omega) (by omega)
  refine ⟨⟨h1, h2, by omega, fun x hx => ?_, add_nodup h6 h5 hn, a3⟩, a1, a2⟩
  rcases pushed h6 x hx with hx | rfl
  · exact h4 x hx
  · exact hf
/-- Whoever is not among the nearest ones: these are k, and none of them is farther. -/
theorem near_rest {k : Nat} {l : List Hit} {h : Hit} (hm : h ∈ l) (hn : h ∉ near k l) : (near k l).length = k ∧ ∀ x ∈ near k l, ¬ h.lt x := by
  have hs := srt_asc l
  have hm2 : h ∈ srt l := (srt_perm l).mem_iff.2 hm
  have e : srt l = near k l ++ (srt l).drop k := (List.take_append_drop k (srt l)).symm
  have hd : h ∈ (srt l).drop k := by
    rw [e] at hm2
    rcases List.mem_append.1 hm2 with h1 | h1
    · exact absurd h1 hn
    · exact h1
  have hlen : k < (srt l).length := by
    apply Decidable.byContradiction
    intro hh
    rw [List.drop_eq_nil_of_le (by omega)] at hd
    simp at hd
  refine ⟨by unfold near; rw [List.length_take]; omega, fun x hx => ?_⟩
  unfold Asc at hs
  rw [e] at hs
  exact (List.pairwise_append.1 hs).2.2 x hx h hd
theorem near_sub {k : Nat} {l : List Hit} : ∀ x ∈ near k l, x ∈ l := fun x hx => (srt_perm l).mem_iff.1 (List.mem_of_mem_take hx)
/-- Of different ids, in order: each is nearer than the next one. -/
theorem asc_strict {l : List Hit} (h : Asc l) (hd : (l.map Hit.id).Nodup) : l.Pairwise Hit.lt := by
  induction l with
  | nil => exact .nil
  | cons x l ih =>
    obtain ⟨h1, h2⟩ := List.pairwise_cons.1 h
    rw [List.map_cons, List.nodup_cons] at hd
    refine List.pairwise_cons.2 ⟨fun y hy => ?_, ih h2 hd.2⟩
    apply Decidable.byContradiction
    intro hn
    have e := Hit.tri hn (h1 y hy)
    exact hd.1 (List.mem_map.2 ⟨y, hy, by rw [e]⟩)
/-- A heap that was grown of hits: its hits in order are the nearest ones of all. -/
theorem grown_near {k : Nat} {l S : List Hit} {h : Hit} {a : List Hit} (hs : srt l = near k S) (ha : srt a = near k (l ++ [h])) : srt a = near k (S ++ [h]) := by
  rw [ha, near_snoc, near_snoc]
  congr 2
  have : near k l = near k S := by
    show (srt l).take k = _
    rw [hs]
    unfold near
    rw [List.take_take, Nat.min_self]
  exact this
theorem worst_top {l : List Hit} (h0 : 0 < l.length) (hh : Heap l l.length) : ∀ x ∈ l, ¬ (l.getD 0 hz).lt x := fun x hx => by
  obtain ⟨m, hm, rfl⟩ := List.getElem_of_mem hx
  have := hh.top m hm
  rwa [show l.getD m hz = l[m] by simp [List.getD, hm]] at this
/-- One that is farther than the farthest one, where there are k, changes nothing. -/
theorem add_far {l : List Hit} {k : Nat} {h : Hit} (hk : l.length = k) (h0 : 0 < k) (hh : Heap l l.length) (hf : (l.getD 0 hz).lt h) : near k (l ++ [h]) = srt l := by
  have hs : srt (l ++ [h]) = srt l ++ [h] := by
    refine (srt_eq ?_ (List.Perm.append_right _ (srt_perm l))).symm
    refine List.pairwise_append.2 ⟨srt_asc l, by simp, fun a ha b hb => ?_⟩
    obtain rfl : b = h := by simpa using hb
    have ha' := (srt_perm l).mem_iff.1 ha
    have h1 := worst_top (by omega) hh a ha'
    exact Hit.le_trans h1 (Hit.asymm hf)
  unfold near
  rw [hs, List.take_append_of_le_length (by rw [srt_length]; omega), List.take_of_length_le (by rw [srt_length]; omega)]
end Go.Proofs.Ytlkdjmpkapeppaa
/- Hits in memory; contracts of best.order, Less, odd. -/
namespace Go.Proofs.Ytlkdjmpkapeppaa
set_option linter.unusedVariables false
set_option linter.unusedSimpArgs false
open Go.RowKit
def hitL : Lay Hit := ((Lay.int .i64).prod (Lay.int .i64)).by 16 fun h => (h.dist, h.id)
theorem hitL_open {m : Mem} {cs : List Value} {h : Hit} (hr : hitL.rd m cs h) : cs = [.int .i64 h.dist, .int .i64 h.id] ∧ InK .i64 h.dist ∧ InK .i64 h.id := by
  obtain ⟨c1, c2, rfl, ⟨rfl, h1⟩, rfl, h2⟩ := hr
  exact ⟨rfl, h1, h2⟩
theorem hitL_mk {m : Mem} {h : Hit} (h1 : InK .i64 h.dist) (h2 : InK .i64 h.id) : hitL.rd m [.int .i64 h.dist, .int .i64 h.id] h := ⟨[.int .i64 h.dist], [.int .i64 h.id], rfl, ⟨rfl, h1⟩, rfl, h2⟩
theorem el_hit : Elem Try.prog 24 30 2 16 (.agg #[.int .i64 0, .int .i64 0]) := ⟨Try.underlying24, by kernel_rfl, rfl, by decide⟩
theorem el_int : Elem Try.prog 129 3 1 8 (.int .i64 0) := ⟨Try.underlying129, by kernel_rfl, rfl, by decide⟩
/-- The first that is not 0. -/
def orI (x y : Int) : Int := if x = 0 then y else x
set_option maxRecDepth 100000 in
set_option maxHeartbeats 2000000 in
theorem or_c (m : Mem) (w : World) (hm : m.In w) (b : Nat) (x y : Int) (h0 : m ⟨b, 0, none⟩ = some (.int .i64 x)) (h1 : m ⟨b, 1, none⟩ = some (.int .i64 y)) :
    Calls Try.prog 62 #[.slice (some ⟨b, 0, none⟩) 2 2] w (Ret w m fun v _ => v = .int .i64 (orI x y)) := by
  have hS := St.start hm
  go_enter Try.func62, Try.ntmps62
  go_wp2
  refine wp_loop_rounds 3 ?_
  iterate 3 (all_goals first | (rw [rounds_succ]) | skip); (all_goals go_wp2_with (first 
    | ((with_reducible refine' Wl.out ?_; apply k_load hS); (· exact .mk))))
  all_goals (go_ret; exact ⟨_, m, rfl, by simp_all [orI], hS.done⟩)
def ordI (a b : Hit) : Int := orI (Lib.compareInt a.dist b.dist) (Lib.compareInt a.id b.id)
theorem ordI_lt (a b : Hit) : ordI a b < 0 ↔ a.lt b := by
  unfold ordI orI Lib.compareInt Hit.lt
  repeat' split
  all_goals omega
end Go.Proofs.Ytlkdjmpkapeppaa
/- Contracts of best.order, Less, odd. -/
namespace Go.Proofs.Ytlkdjmpkapeppaa
set_option linter.unusedVariables false
set_option linter.unusedSimpArgs false
open Go.RowKit
theorem vbool {a b : Bool} (h : a = b) : Value.bool a = Value.bool b := by rw [h]
set_option maxRecDepth 100000 in
set_option maxHeartbeats 2000000 in
theorem order_c (m : Mem) (w : World) (hm : m.In w) (x y : Hit) :
    Calls Try.prog 39 #[.agg #[.int .i64 x.dist, .int .i64 x.id], .agg #[.int .i64 y.dist, .int .i64 y.id]] w (Ret w m fun v _ => v = .int .i64 (ordI x y)) := by
  have hS := St.start hm
  go_enter Try.func39, Try.ntmps39
  go_wp2_with (first 
    | ((with_reducible refine' Wl.out ?_; apply k_box (ty := 30) (y := (.tmp 0)) hS); (· exact .mk); clear hS; intro w2 b2 hS)
    | ((with_reducible refine' Wl.out ?_; apply k_box (ty := 30) (y := (.tmp 1)) hS); (· exact .mk); clear hS; intro w3 b3 hS)
    | ((with_reducible refine' Wl.out ?_; apply k_load hS); (· exact .mk)))
  replace hS := hS.drew
  refine startL (S := Sx _ [(b2, _), (b3, _)]) (by kernel_rfl) ((hS.sx0.cons hS (by (repeat constructor))).cons hS (by (repeat constructor))) (fun _ _ _ _ => trivial) (fun hHeld => ?_)
  focus (refine takeN 0 (v := ?_) rfl (by kernel_rfl) ?_ ?_; rotate_left; focus (intro w hSw; clear hSw; go_simp; try with_reducible rfl))
  try simp only [Act.put, nz1, nz2, nz3]
  refine takeN 1 rfl (by kernel_rfl) (yield_load rfl Try.underlying2 rfl rfl (by (first | (apply FindX.box; (· (repeat constructor)); rfl) | exact FindX.mem (by assumption)))) ?_
  try simp only [Act.put, nz1, nz2, nz3]
  focus (refine takeN 2 (v := ?_) rfl (by kernel_rfl) ?_ ?_; rotate_left; focus (intro w hSw; clear hSw; go_simp; try with_reducible rfl))
  try simp only [Act.put, nz1, nz2, nz3]
  refine takeN 3 rfl (by kernel_rfl) (yield_load rfl Try.underlying2 rfl rfl (by (first | (apply FindX.box; (· (repeat constructor)); rfl) | exact FindX.mem (by assumption)))) ?_
  try simp only [Act.put, nz1, nz2, nz3]
  focus (refine takeN 5 (v := ?_) rfl (by kernel_rfl) ?_ ?_; rotate_left; focus (intro w hSw; clear hSw; go_simp; try with_reducible rfl))
  try simp only [Act.put, nz1, nz2, nz3]
  refine takeN 6 rfl (by kernel_rfl) (yield_load rfl Try.underlying2 rfl rfl (by (first | (apply FindX.box; (· (repeat constructor)); rfl) | exact FindX.mem (by assumption)))) ?_
  try simp only [Act.put, nz1, nz2, nz3]
  focus (refine takeN 7 (v := ?_) rfl (by kernel_rfl) ?_ ?_; rotate_left; focus (intro w hSw; clear hSw; go_simp; try with_reducible rfl))
  try simp only [Act.put, nz1, nz2, nz3]
  refine takeN 8 rfl (by kernel_rfl) (yield_load rfl Try.underlying2 rfl rfl (by (first | (apply FindX.box; (· (repeat constructor)); rfl) | exact FindX.mem (by assumption)))) ?_
  try simp only [Act.put, nz1, nz2, nz3]
  refine wpAnyH_ready (rs := [4]) (by kernel_rfl) (by simp) ?_
  refine consL 4 rfl (fun K hK => ?_) AllReadyH.nil
  rw [if_pos (by rfl)]; go_simp; refine (Try.cmp_Compare_int _ _ _).mono ?_; rintro e' w9 ⟨rfl, rfl⟩; go_wp2_with fail
  refine hK.out _ _ (by first | exact ((hS.sx0.cons hS (by (repeat constructor))).cons hS (by (repeat constructor))) | exact Sx.le (by assumption) ((hS.sx0.cons hS (by (repeat constructor))).cons hS (by (repeat constructor)))) (fun hHeld => ?_)
  clear hK K
  try simp only [Act.put, nz1, nz2, nz3]
  refine wpAnyH_ready (rs := [9]) (by kernel_rfl) (by simp) ?_
  refine consL 9 rfl (fun K hK => ?_) AllReadyH.nil
  rw [if_pos (by rfl)]; go_simp; refine (Try.cmp_Compare_int _ _ _).mono ?_; rintro e' w14 ⟨rfl, rfl⟩; go_wp2_with fail
  refine hK.out _ _ (by first | exact ((hS.sx0.cons hS (by (repeat constructor))).cons hS (by (repeat constructor))) | exact Sx.le (by assumption) ((hS.sx0.cons hS (by (repeat constructor))).cons hS (by (repeat constructor)))) (fun hHeld => ?_)
  clear hK K
  try simp only [Act.put, nz1, nz2, nz3]
  refine wpAnyH_ready (rs := [10]) (by kernel_rfl) (by simp) ?_
  refine consL 10 rfl (fun K hK => ?_) AllReadyH.nil
  (with_reducible apply s_lit el_int hS (cs := [.int .i64 (Lib.compareInt x.dist y.dist), .int .i64 (Lib.compareInt x.id y.id)])); (· decide); (· decide); (· kernel_rfl); clear hS; intro w15 b15 hS
  refine hK.out _ _ (by first | exact ((hS.sx0.cons hS (by (repeat constructor))).cons hS (by (repeat constructor))) | exact Sx.le (by assumption) ((hS.sx0.cons hS (by (repeat constructor))).cons hS (by (repeat constructor)))) (fun hHeld => ?_)
  clear hK K
  try simp only [Act.put, nz1, nz2, nz3]
  refine wpAnyH_ready (rs := [11]) (by kernel_rfl) (by simp) ?_
  refine consL 11 rfl (fun K hK => ?_) AllReadyH.nil
  rw [if_pos (by rfl)]; go_simp; refine (or_c (World.mem _) _ (World.mem_in _) b15 _ _ (hS.find (.box (by (repeat constructor)) rfl)) (hS.find (.box (by (repeat constructor)) rfl))).mono ?_; rintro e' w16 ⟨_, m16, rfl, rfl, hk⟩; replace hS := hS.grow (grownBy_of_below hk.below); clear hk; go_wp2_with fail
  refine hK.out _ _ (by first | exact ((hS.sx0.cons hS (by (repeat constructor))).cons hS (by (repeat constructor))) | exact Sx.le (by assumption) ((hS.sx0.cons hS (by (repeat constructor))).cons hS (by (repeat constructor)))) (fun hHeld => ?_)
  clear hK K
  try simp only [Act.put, nz1, nz2, nz3]
  focus (refine takeN 12 (v := ?_) rfl (by kernel_rfl) ?_ ?_; rotate_left; focus (intro w hSw; clear hSw; go_simp; try with_reducible rfl))
  try simp only [Act.put, nz1, nz2, nz3]
  refine wpAnyH_done (by kernel_rfl) ?_ _
  refine NoPanic.normal ?_
  all_goals (go_wp2_with fail; go_ret; exact ⟨_, m, rfl, rfl, hS.done⟩)
set_option maxRecDepth 100000 in
set_option maxHeartbeats 2000000 in
theorem less_c (m : Mem) (w : World) (hm : m.In w) (x y : Hit) :
    Calls Try.prog 16 #[.agg #[.int .i64 x.dist, .int .i64 x.id], .agg #[.int .i64 y.dist, .int .i64 y.id]] w (Ret w m fun v _ => v = .bool (decide (x.lt y))) := by
  have hS := St.start hm
  go_enter Try.func16, Try.ntmps16
  go_wp2_with (first 
    | ((with_reducible refine' Wl.out ?_; apply k_box (ty := 30) (y := (.tmp 0)) hS); (· exact .mk); clear hS; intro w2 b2 hS)
    | ((with_reducible refine' Wl.out ?_; apply k_box (ty := 30) (y := (.tmp 1)) hS); (· exact .mk); clear hS; intro w3 b3 hS)
    | ((with_reducible refine' Wl.out ?_; apply k_loads hS); (· exact .mk))
    | (go_at_call 39; refine (order_c _ _ hS.inw _ _).mono ?_; rintro e' w7 ⟨_, m7, rfl, rfl, hk⟩; replace hS := hS.call hk; clear hk))
  go_ret
  exact ⟨_, _, rfl, vbool (decide_eq_decide.2 (ordI_lt x y)), hS.done⟩
def oddB (h : Hit) : Bool := decide (h.dist < 0 ∨ h.id < 0 ∨ 2147483647 < h.id)
set_option maxRecDepth 100000 in
set_option maxHeartbeats 2000000 in
theorem odd_c (m : Mem) (w : World) (hm : m.In w) (x : Hit) :
    Calls Try.prog 31 #[.agg #[.int .i64 x.dist, .int .i64 x.id]] w (Ret w m fun v _ => v = .bool (oddB x)) := by
  have hS := St.start hm
  go_enter Try.func31, Try.ntmps31
  go_wp2_with (first 
    | ((with_reducible refine' Wl.out ?_; apply k_box hS); (· exact .mk); clear hS; intro _ _ hS)
    | ((with_reducible refine' Wl.out ?_; apply k_load hS); (· exact .mk))
    | go_skip
    | ((with_reducible refine' Wl.out ?_; apply kg_load hS); iterate 2 (· exact .mk))
    | ((with_reducible refine' Wl.out ?_; refine' wg_case ?_ ?_) <;> (intro hgW; (try (have hg2 := hgW; simp [go_sem] at hg2)); (first | (exfalso; assumption) | ((with_reducible refine' Wl.out ?_; apply k_no hgW)) | ((with_reducible refine' Wl.out ?_; apply kg_load hS ⟨hgW⟩); (· exact .mk))); clear hgW)))
  all_goals (go_ret; exact ⟨_, m, rfl, vbool (by simp_all [oddB, Bool.or_assoc]; try omega), hS.done⟩)
set_option maxRecDepth 100000 in
set_option maxHeartbeats 2000000 in
theorem same_id_c (m : Mem) (w : World) (hm : m.In w) (x h : Hit) (b : Nat) (hb : m ⟨b, 1, none⟩ = some (.int .i64 h.id)) :
    Calls Try.prog 33 #[.agg #[.int .i64 x.dist, .int .i64 x.id], .pointer (some ⟨b, 0, none⟩)] w (Ret w m fun v _ => v = .bool (decide (x.id = h.id))) := by
  have hS := St.start hm
  go_enter Try.func33, Try.ntmps33
  go_wp2_with (first 
    | ((with_reducible refine' Wl.out ?_; apply k_box (ty := 30) (y := (.tmp 0)) hS); (· exact .mk); clear hS; intro w2 b2 hS)
    | ((with_reducible refine' Wl.out ?_; apply k_load hS); (· exact .mk)))
  all_goals (go_ret; exact ⟨_, m, rfl, vbool (by first | rfl | (simp; done)), hS.done⟩)
end Go.Proofs.Ytlkdjmpkapeppaa
/- A struct stored into a row of the call's own. -/
namespace Go.Proofs.Ytlkdjmpkapeppaa
set_option linter.unusedVariables false
set_option linter.unusedSimpArgs false
open Go.RowKit
variable {ops : Array Oper} {P : Program} {X : List Nat} {w0 w : World} {m0 m : Mem} {es : List Ent} {o : Oper} {a : Act} {K : Act → World → Prop} {Q : Exit → Act → World → Prop}
/-- A part of a list is laid anew. -/
def lay (xs : List Value) (off : Nat) (vs : List Value) : List Value := xs.take off ++ vs ++ xs.drop (off + vs.length)
theorem lay_len {xs vs : List Value} {off : Nat} (h : off + vs.length ≤ xs.length) : (lay xs off vs).length = xs.length := by simp [lay]; omega
theorem setCells_row {e size n g c : Nat} : ∀ (vs : List Value) (w : World) (off : Nat) (xs : List Value), w.ownsRow 0 e size (.slice (some ⟨g, 0, none⟩) n c) n xs → off + vs.length ≤ xs.length →
    (w.setCells g off vs).ownsRow 0 e size (.slice (some ⟨g, 0, none⟩) n c) n (lay xs off vs) ∧ w.grownBy (w.setCells g off vs) (some g)
  | [], w, off, xs, h, hl => by
    refine ⟨?_, ⟨rfl, rfl, rfl, Nat.le_refl _, fun _ _ _ => rfl⟩⟩
    simpa [World.setCells, lay] using h
  | v :: vs, w, off, xs, h, hl => by
    simp only [List.length_cons] at hl
    have h1 := ownsRow_set0 h off v
    obtain ⟨h2, h3⟩ := setCells_row vs (w.setCell ⟨g, off, none⟩ v) (off + 1) (xs.set off v) h1 (by simp; omega)
    have hg := grownBy_setCell w ⟨g, off, none⟩ v
    refine ⟨?_, ⟨h3.os.trans hg.os, h3.tape.trans hg.tape, h3.output.trans hg.output, Nat.le_trans hg.size h3.size, fun k hk hn => (h3.block k (Nat.lt_of_lt_of_le hk hg.size) hn).trans (hg.block k hk hn)⟩⟩
    rw [World.setCells]
    have e : lay (xs.set off v) (off + 1) vs = lay xs off (v :: vs) := by
      unfold lay
      rw [List.length_cons, show off + (vs.length + 1) = off + 1 + vs.length by omega, List.drop_set_of_lt (by omega)]
      rw [List.take_succ_eq_append_getElem (by simp; omega), List.take_set_of_le (Nat.le_refl _)]
      simp
    rw [← e]
    exact h2
theorem op_storesR (hS : St X w0 m0 w es m) (ty : TypeId) (x y : Operand) (ho : o.op = .store ty x y) {g off : Nat} (hx : a.eval x = .pointer (some ⟨g, off, none⟩)) {vs : List Value} (hy : a.eval y = .agg vs.toArray) (h1 : ∀ v ∈ vs, v.oneCell' = true)
    (hn : (P.info? ty).map (·.size) = some vs.length) {e : TypeId} {size n c : Nat} {xs : List Value} {f : Value → Nat → List Value → List Ent} (hi : RowAt es e size (.slice (some ⟨g, 0, none⟩) n c) n xs f) (hl : off + vs.length ≤ xs.length)
    (h : ∀ w', St X w0 m0 w' (f (.slice (some ⟨g, 0, none⟩) n c) n (lay xs off vs)) m → K (a.put o.dst undef) w') : o.wp P a w K Q := by
  obtain ⟨i, hi1, hf⟩ := hi.at
  have hown := hS.row i hi1
  have hfr : ∀ j, w.frozen? ⟨g, j, none⟩ = false := by
    rcases hown.2 with ⟨e, _⟩ | ⟨g', cap, cur, e, hb, hg, _⟩
    · cases e
    · cases e; exact fun j => frozen_of_row _ _ _ _ _ hg
  obtain ⟨h2, h3⟩ := setCells_row vs w off xs hown hl
  refine wp_store_mid ty x y ho g off vs.toArray hx hy (fun j hj => ?_) (by simpa using hn) (all_oneCell_toArray h1) ?_
  · simp at hj
    have := hown.cells (g := g) rfl (off + j) _ (List.getElem?_eq_getElem (by omega))
    rw [Addr.add_lit, Nat.zero_add] at this
    exact ⟨by simp [this], hfr _⟩
  · refine h _ ?_
    rw [hf]
    exact hS.set i _ _ hi1 h3 h2 (fun _ h => .inl h)
section
variable {rest : List Oper} {dst : Option Tmp} {rt : TypeId} {pos : String} {af : Array Edge} {E : Prop}
theorem s_storesR {ty : TypeId} {x y : Operand} (hS : St X w0 m0 w es m) {k : Nat} (hn : ∃ d, P.underlying ty = some d ∧ d.isRow = true ∧ (P.info? ty).map (·.size) = some k) {g off : Nat} (hx : a.eval x = .pointer (some ⟨g, off, none⟩)) {vs : List Value} (hy : a.eval y = .agg vs.toArray) (hk : vs.length = k) (h1 : ∀ v ∈ vs, v.oneCell' = true)
    {e : TypeId} {size n c : Nat} {xs : List Value} {f : Value → Nat → List Value → List Ent} (hi : RowAt es e size (.slice (some ⟨g, 0, none⟩) n c) n xs f) (hl : off + vs.length ≤ xs.length)
    (h : ∀ w', St X w0 m0 w' (f (.slice (some ⟨g, 0, none⟩) n c) n (lay xs off vs)) m → K (a.put dst undef) w') : if Region.wanted ⟨dst, .store ty x y, rt, pos, af, none⟩ (yielded ops a.tmps) = true then Oper.wp P ⟨dst, .store ty x y, rt, pos, af, none⟩ a w K Q else E := by
  obtain ⟨d, _, _, hn⟩ := hn
  subst hk
  exact step_of rfl (op_storesR hS ty x y rfl hx hy h1 hn hi hl h)
theorem wl_storesR {ty : TypeId} {x y : Operand} (hS : St X w0 m0 w es m) {k : Nat} (hn : ∃ d, P.underlying ty = some d ∧ d.isRow = true ∧ (P.info? ty).map (·.size) = some k) {g off : Nat} (hx : a.eval x = .pointer (some ⟨g, off, none⟩)) {vs : List Value} (hy : a.eval y = .agg vs.toArray) (hk : vs.length = k) (h1 : ∀ v ∈ vs, v.oneCell' = true)
    {e : TypeId} {size n c : Nat} {xs : List Value} {f : Value → Nat → List Value → List Ent} (hi : RowAt es e size (.slice (some ⟨g, 0, none⟩) n c) n xs f) (hl : off + vs.length ≤ xs.length)
    (h : ∀ w', St X w0 m0 w' (f (.slice (some ⟨g, 0, none⟩) n c) n (lay xs off vs)) m → wpList P ops Q rest (a.put dst undef) w') : Wl P ops Q (⟨dst, .store ty x y, rt, pos, af, none⟩ :: rest) a w := by
  obtain ⟨d, _, _, hn⟩ := hn
  subst hk
  exact ⟨wpList_plain rfl fun K hK => op_storesR hS ty x y rfl hx hy h1 hn hi hl fun w' hw => hK _ _ (h w' hw)⟩
end
end Go.Proofs.Ytlkdjmpkapeppaa
/- Hits in a row of the call's own: its cells; contracts of the methods of hits that look and change places. -/
namespace Go.Proofs.Ytlkdjmpkapeppaa
set_option linter.unusedVariables false
set_option linter.unusedSimpArgs false
open Go.RowKit
def hitC (h : Hit) : List Value := [.int .i64 h.dist, .int .i64 h.id]
def cellsH (l : List Hit) : List Value := l.flatMap hitC
theorem cellsH_len (l : List Hit) : (cellsH l).length = l.length * 2 := by
  induction l with
  | nil => rfl
  | cons x l ih => simp only [cellsH, List.flatMap_cons, List.length_append, hitC, List.length_cons, List.length_nil] at ih ⊢; omega
theorem cellsH_get : ∀ (l : List Hit) (i : Nat), i < l.length → ∀ j v, (hitC (l.getD i hz))[j]? = some v → (cellsH l)[i * 2 + j]? = some v
  | [], i, h, _, _, _ => absurd h (Nat.not_lt_zero _)
  | x :: l, 0, h, j, v, hj => by
    have hl : j < 2 := by have := (List.getElem?_eq_some_iff.1 hj).1; simpa [hitC] using this
    simp only [cellsH, List.flatMap_cons, Nat.zero_mul, Nat.zero_add]
    rw [List.getElem?_append_left (by simpa [hitC] using hl)]
    simpa using hj
  | x :: l, i + 1, h, j, v, hj => by
    have := cellsH_get l i (by simpa using h) j v (by simpa using hj)
    simp only [cellsH, List.flatMap_cons]
    rw [List.getElem?_append_right (by simp [hitC]; omega)]
    rw [← this]
    simp only [cellsH, hitC, List.length_cons, List.length_nil]
    congr 1
    omega
theorem cellsH_lay (h : Hit) : ∀ (l : List Hit) (i : Nat), i < l.length → lay (cellsH l) (i * 2) (hitC h) = cellsH (l.set i h)
  | [], i, hi => absurd hi (Nat.not_lt_zero _)
  | x :: l, 0, hi => by simp [lay, cellsH, hitC]
  | x :: l, i + 1, hi => by
    have := cellsH_lay h l i (by simpa using hi)
    simp only [lay, cellsH, List.set_cons_succ, List.flatMap_cons] at this ⊢
    rw [← this]
    have e : (i + 1) * 2 = (hitC x).length + i * 2 := by simp [hitC]; omega
    rw [e, List.take_append, List.drop_append]
    simp only [Nat.add_sub_cancel_left]
    rw [List.take_of_length_le (Nat.le_add_right _ _), List.drop_eq_nil_of_le (by omega), show (hitC x).length + i * 2 + (hitC h).length - (hitC x).length = i * 2 + (hitC h).length by omega]
    simp
end Go.Proofs.Ytlkdjmpkapeppaa
/- The methods of hits through heap.Interface: to which function a call leads. -/
namespace Go.Proofs.Ytlkdjmpkapeppaa
set_option linter.unusedVariables false
set_option linter.unusedSimpArgs false
open Go.RowKit
theorem meth_load (b : Nat) (s : Value) (w : World) (h : w.cell? ⟨b, 0, none⟩ = some s) : (loadVar 67 ⟨b, 0, none⟩).run Try.prog w = .ok s w :=
  run_loadVar_one h Try.underlying67 rfl
theorem meth_len (n b : Nat) (s : Value) (w : World) (h : w.cell? ⟨b, 0, none⟩ = some s) : (method (n + 1) 69 (.pointer (some ⟨b, 0, none⟩)) "Len").run Try.prog w = .ok (109, s) w := by
  have h1 : (method (n + 1) 69 (.pointer (some ⟨b, 0, none⟩)) "Len").run Try.prog w = ((loadVar 67 ⟨b, 0, none⟩) >>= fun v => pure (109, v)).run Try.prog w := by kernel_rfl
  rw [h1, Sem.run_bind, meth_load b s w h]
  rfl
theorem meth_less (n b : Nat) (s : Value) (w : World) (h : w.cell? ⟨b, 0, none⟩ = some s) : (method (n + 1) 69 (.pointer (some ⟨b, 0, none⟩)) "Less").run Try.prog w = .ok (110, s) w := by
  have h1 : (method (n + 1) 69 (.pointer (some ⟨b, 0, none⟩)) "Less").run Try.prog w = ((loadVar 67 ⟨b, 0, none⟩) >>= fun v => pure (110, v)).run Try.prog w := by kernel_rfl
  rw [h1, Sem.run_bind, meth_load b s w h]
  rfl
theorem meth_swap (n b : Nat) (s : Value) (w : World) (h : w.cell? ⟨b, 0, none⟩ = some s) : (method (n + 1) 69 (.pointer (some ⟨b, 0, none⟩)) "Swap").run Try.prog w = .ok (111, s) w := by
  have h1 : (method (n + 1) 69 (.pointer (some ⟨b, 0, none⟩)) "Swap").run Try.prog w = ((loadVar 67 ⟨b, 0, none⟩) >>= fun v => pure (111, v)).run Try.prog w := by kernel_rfl
  rw [h1, Sem.run_bind, meth_load b s w h]
  rfl
theorem meth_push (n b : Nat) (w : World) : (method (n + 1) 69 (.pointer (some ⟨b, 0, none⟩)) "Push").run Try.prog w = .ok (113, .pointer (some ⟨b, 0, none⟩)) w := by kernel_rfl
theorem meth_pop (n b : Nat) (w : World) : (method (n + 1) 69 (.pointer (some ⟨b, 0, none⟩)) "Pop").run Try.prog w = .ok (112, .pointer (some ⟨b, 0, none⟩)) w := by kernel_rfl
end Go.Proofs.Ytlkdjmpkapeppaa
/- Contracts of hits' Len and Less. -/
namespace Go.Proofs.Ytlkdjmpkapeppaa
set_option linter.unusedVariables false
set_option linter.unusedSimpArgs false
open Go.RowKit
set_option maxRecDepth 100000 in
set_option maxHeartbeats 2000000 in
theorem hlen_c (w : World) (q : Option Addr) (n c : Nat) : Calls Try.prog 109 #[.slice q n c] w fun e w' => e = .returned (.int .i64 n) ∧ w' = w := by
  go_enter Try.func109, Try.ntmps109
  go_wp2
  go_ret
  exact ⟨rfl, rfl⟩
/-- The hits of a list lie in a row at g. -/
def HitsAt (w : World) (g : Nat) (l : List Hit) : Prop := ∀ j v, (cellsH l)[j]? = some v → w.cell? ⟨g, j, none⟩ = some v
theorem HitsAt.get {w : World} {g : Nat} {l : List Hit} (h : HitsAt w g l) (i : Nat) (hi : i < l.length) : ∀ j v, [Value.int .i64 (l.getD i hz).dist, .int .i64 (l.getD i hz).id][j]? = some v → (World.mem w) ⟨g, i * 2 + j, none⟩ = some v :=
  fun j v hj => h _ v (cellsH_get l i hi j v hj)
set_option maxRecDepth 100000 in
set_option maxHeartbeats 2000000 in
theorem hless_c (w : World) (g c : Nat) (l : List Hit) (hr : HitsAt w g l) (i k : Nat) (hi : i < l.length) (hk : k < l.length) :
    Calls Try.prog 110 #[.slice (some ⟨g, 0, none⟩) l.length c, .int .i64 i, .int .i64 k] w (Ret w (World.mem w) fun v _ => v = .bool (decide ((l.getD k hz).lt (l.getD i hz)))) := by
  have hS := St.start (World.mem_in w)
  have hI := hr.get i hi
  have hK := hr.get k hk
  generalize l.getD i hz = x at hI ⊢
  generalize l.getD k hz = y at hK ⊢
  have hi' : ¬ (l.length : Int) ≤ (i : Int) := by omega
  have hk' : ¬ (l.length : Int) ≤ (k : Int) := by omega
  clear hr
  go_enter Try.func110, Try.ntmps110
  go_wp2_with (first 
    | ((with_reducible refine' Wl.out ?_; apply k_loads hS); (· exact .mk)))
  replace hS := hS.drew
  refine startL (S := Sx _ []) (by kernel_rfl) hS.sx0 (fun _ _ _ _ => trivial) (fun hHeld => ?_)
  focus (refine takeN 0 (v := ?_) rfl (by kernel_rfl) ?_ ?_; rotate_left; focus (intro w hSw; clear hSw; go_simp; try with_reducible rfl))
  try simp only [Act.put, nz1, nz2, nz3]
  focus (refine takeN 1 (v := ?_) rfl (by kernel_rfl) ?_ ?_; rotate_left; focus (intro w hSw; clear hSw; go_simp; try with_reducible rfl))
  try simp only [Act.put, nz1, nz2, nz3]
  focus (refine takeN 2 (v := ?_) rfl (by kernel_rfl) ?_ ?_; rotate_left; focus (intro w hSw; clear hSw; go_simp; try with_reducible rfl))
  try simp only [Act.put, nz1, nz2, nz3]
  refine takeN 3 rfl (by kernel_rfl) (yield_loads rfl rowT30 rfl (by (first | (apply FindsX.box; (· (repeat constructor)); (· (repeat constructor)); done) | (refine FindsX.mem (by assumption) ?_; first | rfl | assumption | (simp; done))))) ?_
  try simp only [Act.put, nz1, nz2, nz3]
  focus (refine takeN 4 (v := ?_) rfl (by kernel_rfl) ?_ ?_; rotate_left; focus (intro w hSw; clear hSw; go_simp; try with_reducible rfl))
  try simp only [Act.put, nz1, nz2, nz3]
  focus (refine takeN 5 (v := ?_) rfl (by kernel_rfl) ?_ ?_; rotate_left; focus (intro w hSw; clear hSw; go_simp; try with_reducible rfl))
  try simp only [Act.put, nz1, nz2, nz3]
  focus (refine takeN 6 (v := ?_) rfl (by kernel_rfl) ?_ ?_; rotate_left; focus (intro w hSw; clear hSw; go_simp; try with_reducible rfl))
  try simp only [Act.put, nz1, nz2, nz3]
  refine takeN 7 rfl (by kernel_rfl) (yield_loads rfl rowT30 rfl (by (first | (apply FindsX.box; (· (repeat constructor)); (· (repeat constructor)); done) | (refine FindsX.mem (by assumption) ?_; first | rfl | assumption | (simp; done))))) ?_
  try simp only [Act.put, nz1, nz2, nz3]
  refine wpAnyH_ready (rs := [8]) (by kernel_rfl) (by simp) ?_
  refine consL 8 rfl (fun K hK => ?_) AllReadyH.nil
  rw [if_pos (by rfl)]; go_simp; refine (less_c _ _ hS.inw y x).mono ?_; rintro e' w15 ⟨_, m15, rfl, rfl, hk15⟩; replace hS := hS.call hk15; have hle := hk15.le; clear hk15; go_wp2_with fail
  refine hK.out _ _ (by first | exact hS.sx0 | exact Sx.le (by assumption) hS.sx0) (fun hHeld => ?_)
  clear hK K
  try simp only [Act.put, nz1, nz2, nz3]
  focus (refine takeN 9 (v := ?_) rfl (by kernel_rfl) ?_ ?_; rotate_left; focus (intro w hSw; clear hSw; go_simp; try with_reducible rfl))
  try simp only [Act.put, nz1, nz2, nz3]
  refine wpAnyH_done (by kernel_rfl) ?_ _
  refine NoPanic.normal ?_
  all_goals (go_wp2_with fail; go_ret; exact ⟨_, _, rfl, rfl, hS.done⟩)
end Go.Proofs.Ytlkdjmpkapeppaa
/- Contract of hits' Swap. -/
namespace Go.Proofs.Ytlkdjmpkapeppaa
set_option linter.unusedVariables false
set_option linter.unusedSimpArgs false
open Go.RowKit
theorem cellsH_lay' {l : List Hit} {i : Nat} (hi : i < l.length) (h : Hit) : lay (cellsH l) (i * 2) [.int .i64 h.dist, .int .i64 h.id] = cellsH (l.set i h) := cellsH_lay h l i hi
theorem rowGet {l : List Hit} (i : Nat) (hi : i < l.length) : ∀ j v, [Value.int .i64 (l.getD i hz).dist, .int .i64 (l.getD i hz).id][j]? = some v → (cellsH l)[i * 2 + j]? = some v := fun j v hj => cellsH_get l i hi j v hj
theorem lay_room {l : List Hit} {i : Nat} (hi : i < l.length) (h : Hit) : i * 2 + [Value.int .i64 h.dist, .int .i64 h.id].length ≤ (cellsH l).length := by rw [cellsH_len]; simp; omega
/-- Two stores, whichever comes first: two places change their hits. -/
theorem swap_one {l : List Hit} {i k : Nat} (hi : i < l.length) (hk : k < l.length) : lay (lay (cellsH l) (i * 2) [.int .i64 (l.getD k hz).dist, .int .i64 (l.getD k hz).id]) (k * 2) [.int .i64 (l.getD i hz).dist, .int .i64 (l.getD i hz).id] = cellsH (swapL l i k) := by
  rw [cellsH_lay' hi, cellsH_lay' (by simpa using hk)]
  rfl
abbrev rowH (g c : Nat) (n : Nat) (cs : List Value) : Ent := .row 30 2 (.slice (some ⟨g, 0, none⟩) n c) n cs
set_option maxRecDepth 100000 in
set_option maxHeartbeats 4000000 in
theorem hswap_c (X : List Nat) (w w0 : World) (m m0 : Mem) (g c : Nat) (l : List Hit) (hS : St X w0 m0 w [rowH g c l.length (cellsH l)] m) (i k : Nat) (hi : i < l.length) (hk : k < l.length) :
    Calls Try.prog 111 #[.slice (some ⟨g, 0, none⟩) l.length c, .int .i64 i, .int .i64 k] w fun e w' => e = .returned (.tuple #[]) ∧ St X w0 m0 w' [rowH g c l.length (cellsH (swapL l i k))] m := by
  have hI := rowGet i hi
  have hK := rowGet k hk
  have hE := Lib.hid (swap_one hi hk)
  have l1 := Lib.hid (lay_room hk (l.getD i hz))
  have l2 := Lib.hid (lay_room hi (l.getD k hz))
  have hi' : ¬ (l.length : Int) ≤ (i : Int) := by omega
  have hk' : ¬ (l.length : Int) ≤ (k : Int) := by omega
  generalize l.getD i hz = x at *
  generalize l.getD k hz = y at *
  go_enter Try.func111, Try.ntmps111
  go_wp2_with (first 
    | ((with_reducible refine' Wl.out ?_; apply k_loads hS); (· exact .mk))
    | ((with_reducible refine' Wl.out ?_; apply k_stores hS); (· exact .mk); clear hS; intro ws hS))
  replace hS := hS.drew
  refine startL (S := Sx _ []) (by kernel_rfl) hS.sx0 (fun _ _ _ _ => trivial) (fun hHeld => ?_)
  focus (refine takeN 0 (v := ?_) rfl (by kernel_rfl) ?_ ?_; rotate_left; focus (intro w hSw; clear hSw; go_simp; try with_reducible rfl))
  try simp only [Act.put, nz1, nz2, nz3]
  focus (refine takeN 1 (v := ?_) rfl (by kernel_rfl) ?_ ?_; rotate_left; focus (intro w hSw; clear hSw; go_simp; try with_reducible rfl))
  try simp only [Act.put, nz1, nz2, nz3]
  focus (refine takeN 2 (v := ?_) rfl (by kernel_rfl) ?_ ?_; rotate_left; focus (intro w hSw; clear hSw; go_simp; try with_reducible rfl))
  try simp only [Act.put, nz1, nz2, nz3]
  focus (refine takeN 3 (v := ?_) rfl (by kernel_rfl) ?_ ?_; rotate_left; focus (intro w hSw; clear hSw; go_simp; try with_reducible rfl))
  try simp only [Act.put, nz1, nz2, nz3]
  focus (refine takeN 4 (v := ?_) rfl (by kernel_rfl) ?_ ?_; rotate_left; focus (intro w hSw; clear hSw; go_simp; try with_reducible rfl))
  try simp only [Act.put, nz1, nz2, nz3]
  focus (refine takeN 5 (v := ?_) rfl (by kernel_rfl) ?_ ?_; rotate_left; focus (intro w hSw; clear hSw; go_simp; try with_reducible rfl))
  try simp only [Act.put, nz1, nz2, nz3]
  focus (refine takeN 6 (v := ?_) rfl (by kernel_rfl) ?_ ?_; rotate_left; focus (intro w hSw; clear hSw; go_simp; try with_reducible rfl))
  try simp only [Act.put, nz1, nz2, nz3]
  focus (refine takeN 8 (v := ?_) rfl (by kernel_rfl) ?_ ?_; rotate_left; focus (intro w hSw; clear hSw; go_simp; try with_reducible rfl))
  try simp only [Act.put, nz1, nz2, nz3]
  focus (refine takeN 9 (v := ?_) rfl (by kernel_rfl) ?_ ?_; rotate_left; focus (intro w hSw; clear hSw; go_simp; try with_reducible rfl))
  try simp only [Act.put, nz1, nz2, nz3]
  focus (refine takeN 10 (v := ?_) rfl (by kernel_rfl) ?_ ?_; rotate_left; focus (intro w hSw; clear hSw; go_simp; try with_reducible rfl))
  try simp only [Act.put, nz1, nz2, nz3]
  refine wpAnyH_ready (rs := [7, 11]) (by kernel_rfl) (by simp) ?_
  refine consL 7 rfl (fun K hK => ?_) (consL 11 rfl (fun K hK => ?_) AllReadyH.nil)
  rotate_right
  focus
    (with_reducible apply s_loads hS); (· exact rowT30); (· exact rfl); (· (first | (apply Finds.box; (· (repeat constructor)); (· (repeat constructor)); done) | (refine Finds.mem2 (by assumption) ?_; first | rfl | assumption | (simp; done)) | (apply Finds.row; (· (repeat constructor)); (· assumption); (· rfl))))
    refine hK.out _ _ (by first | exact hS.sx0 | exact Sx.le (by assumption) hS.sx0) (fun hHeld => ?_)
    clear hK K
    try simp only [Act.put, nz1, nz2, nz3]
    refine wpAnyH_ready (rs := [7]) (by kernel_rfl) (by simp) ?_
    refine consL 7 rfl (fun K hK => ?_) AllReadyH.nil
    (with_reducible apply s_loads hS); (· exact rowT30); (· exact rfl); (· (first | (apply Finds.box; (· (repeat constructor)); (· (repeat constructor)); done) | (refine Finds.mem2 (by assumption) ?_; first | rfl | assumption | (simp; done)) | (apply Finds.row; (· (repeat constructor)); (· assumption); (· rfl))))
    refine hK.out _ _ (by first | exact hS.sx0 | exact Sx.le (by assumption) hS.sx0) (fun hHeld => ?_)
    clear hK K
    try simp only [Act.put, nz1, nz2, nz3]
    focus (refine takeN 12 (v := ?_) rfl (by kernel_rfl) ?_ ?_; rotate_left; focus (intro w hSw; clear hSw; go_simp; try with_reducible rfl))
    try simp only [Act.put, nz1, nz2, nz3]
    refine wpAnyH_ready (rs := [13]) (by kernel_rfl) (by simp) ?_
    refine consL 13 rfl (fun K hK => ?_) AllReadyH.nil
    (with_reducible apply s_storesR hS rowT30); (· exact rfl); (· exact rfl); (· exact rfl); (· (first | assumption | (simp [Value.oneCell']; done))); (· (repeat constructor)); (· exact l2.out); clear hS; intro ws hS
    refine hK.out _ _ (by first | exact hS.sx0 | exact Sx.le (by assumption) hS.sx0) (fun hHeld => ?_)
    clear hK K
    try simp only [Act.put, nz1, nz2, nz3]
    focus (refine takeN 14 (v := ?_) rfl (by kernel_rfl) ?_ ?_; rotate_left; focus (intro w hSw; clear hSw; go_simp; try with_reducible rfl))
    try simp only [Act.put, nz1, nz2, nz3]
    refine wpAnyH_ready (rs := [15]) (by kernel_rfl) (by simp) ?_
    refine consL 15 rfl (fun K hK => ?_) AllReadyH.nil
    (with_reducible apply s_storesR hS rowT30); (· exact rfl); (· exact rfl); (· exact rfl); (· (first | assumption | (simp [Value.oneCell']; done))); (· (repeat constructor)); (· rw [lay_len l2.out]; exact l1.out); clear hS; intro ws hS
    refine hK.out _ _ (by first | exact hS.sx0 | exact Sx.le (by assumption) hS.sx0) (fun hHeld => ?_)
    clear hK K
    try simp only [Act.put, nz1, nz2, nz3]
    refine wpAnyH_done (by kernel_rfl) ?_ _
    refine NoPanic.normal ?_
  rotate_right
  focus
    (with_reducible apply s_loads hS); (· exact rowT30); (· exact rfl); (· (first | (apply Finds.box; (· (repeat constructor)); (· (repeat constructor)); done) | (refine Finds.mem2 (by assumption) ?_; first | rfl | assumption | (simp; done)) | (apply Finds.row; (· (repeat constructor)); (· assumption); (· rfl))))
    refine hK.out _ _ (by first | exact hS.sx0 | exact Sx.le (by assumption) hS.sx0) (fun hHeld => ?_)
    clear hK K
    try simp only [Act.put, nz1, nz2, nz3]
    refine wpAnyH_ready (rs := [11]) (by kernel_rfl) (by simp) ?_
    refine consL 11 rfl (fun K hK => ?_) AllReadyH.nil
    (with_reducible apply s_loads hS); (· exact rowT30); (· exact rfl); (· (first | (apply Finds.box; (· (repeat constructor)); (· (repeat constructor)); done) | (refine Finds.mem2 (by assumption) ?_; first | rfl | assumption | (simp; done)) | (apply Finds.row; (· (repeat constructor)); (· assumption); (· rfl))))
    refine hK.out _ _ (by first | exact hS.sx0 | exact Sx.le (by assumption) hS.sx0) (fun hHeld => ?_)
    clear hK K
    try simp only [Act.put, nz1, nz2, nz3]
    focus (refine takeN 12 (v := ?_) rfl (by kernel_rfl) ?_ ?_; rotate_left; focus (intro w hSw; clear hSw; go_simp; try with_reducible rfl))
    try simp only [Act.put, nz1, nz2, nz3]
    refine wpAnyH_ready (rs := [13]) (by kernel_rfl) (by simp) ?_
    refine consL 13 rfl (fun K hK => ?_) AllReadyH.nil
    (with_reducible apply s_storesR hS rowT30); (· exact rfl); (· exact rfl); (· exact rfl); (· (first | assumption | (simp [Value.oneCell']; done))); (· (repeat constructor)); (· exact l2.out); clear hS; intro ws hS
    refine hK.out _ _ (by first | exact hS.sx0 | exact Sx.le (by assumption) hS.sx0) (fun hHeld => ?_)
    clear hK K
    try simp only [Act.put, nz1, nz2, nz3]
    focus (refine takeN 14 (v := ?_) rfl (by kernel_rfl) ?_ ?_; rotate_left; focus (intro w hSw; clear hSw; go_simp; try with_reducible rfl))
    try simp only [Act.put, nz1, nz2, nz3]
    refine wpAnyH_ready (rs := [15]) (by kernel_rfl) (by simp) ?_
    refine consL 15 rfl (fun K hK => ?_) AllReadyH.nil
    (with_reducible apply s_storesR hS rowT30); (· exact rfl); (· exact rfl); (· exact rfl); (· (first | assumption | (simp [Value.oneCell']; done))); (· (repeat constructor)); (· rw [lay_len l2.out]; exact l1.out); clear hS; intro ws hS
    refine hK.out _ _ (by first | exact hS.sx0 | exact Sx.le (by assumption) hS.sx0) (fun hHeld => ?_)
    clear hK K
    try simp only [Act.put, nz1, nz2, nz3]
    refine wpAnyH_done (by kernel_rfl) ?_ _
    refine NoPanic.normal ?_
  all_goals (go_wp2_with fail; rw [hE.out] at hS; exact bodyPost_end (v := .tuple #[]) (by kernel_rfl) rfl ⟨rfl, hS⟩)
end Go.Proofs.Ytlkdjmpkapeppaa
/- Contract of hits' Push. -/
namespace Go.Proofs.Ytlkdjmpkapeppaa
set_option linter.unusedVariables false
set_option linter.unusedSimpArgs false
open Go.RowKit
theorem el_hits : Elem Try.prog 67 30 2 16 (.agg #[.int .i64 0, .int .i64 0]) := ⟨Try.underlying67, by kernel_rfl, rfl, by decide⟩
abbrev rowQ (q : Option Addr) (c n : Nat) (cs : List Value) : Ent := .row 30 2 (.slice q n c) n cs
theorem cellsH_snoc (l : List Hit) (h : Hit) : cellsH l ++ [.int .i64 h.dist, .int .i64 h.id] = cellsH (l ++ [h]) := by simp [cellsH, hitC]
set_option maxRecDepth 100000 in
set_option maxHeartbeats 4000000 in
theorem hpush_c (X : List Nat) (w w0 : World) (m m0 : Mem) (b : Nat) (q : Option Addr) (c : Nat) (l : List Hit) (h : Hit) (hS : St X w0 m0 w [.box b [.slice q l.length c], rowQ q c l.length (cellsH l)] m) (hl : l.length ≤ 1000) :
    Calls Try.prog 113 #[.pointer (some ⟨b, 0, none⟩), .iface 30 (.agg #[.int .i64 h.dist, .int .i64 h.id])] w fun e w' => e = .returned (.tuple #[]) ∧ ∃ q' c', St X w0 m0 w' [.box b [.slice q' (l.length + 1) c'], rowQ q' c' (l.length + 1) (cellsH (l ++ [h]))] m := by
  have ta : ∀ (t : TypeId) (w : World), (Instr.typeAssert (.iface 30 (.agg #[.int .i64 h.dist, .int .i64 h.id])) t 30 true).run Try.prog w = .ok (.tuple #[.agg #[.int .i64 h.dist, .int .i64 h.id], .bool true]) w := fun _ _ => by kernel_rfl
  go_enter Try.func113, Try.ntmps113
  go_wp2_with (first 
    | ((with_reducible refine' Wl.out ?_; apply k_alloc (ty := 30) (dst := some 4) hS); (· exact .mk); clear hS; intro w4 b4 hS)
    | ((with_reducible refine' Wl.out ?_; apply k_load hS); (· exact .mk))
    | ((with_reducible refine' Wl.out ?_; apply k_loads hS); (· exact .mk))
    | ((with_reducible refine' Wl.out ?_; apply k_store hS); (· exact .mk); clear hS; intro ws hS)
    | ((with_reducible refine' Wl.out ?_; apply k_storeR hS); (· exact .mk); clear hS; intro ws hS)
    | ((with_reducible refine' Wl.out ?_; apply k_stores hS); (· exact .mk); clear hS; intro ws hS))
  replace hS := hS.drew
  refine startL (S := Sx _ [(b4, _)]) (by kernel_rfl) (hS.sx0.cons hS (by (repeat constructor))) (fun _ _ _ _ => trivial) (fun hHeld => ?_)
  focus (refine takeN 0 (v := ?_) rfl (by kernel_rfl) ?_ ?_; rotate_left; focus (intro w hSw; clear hSw; go_simp; try with_reducible rfl))
  try simp only [Act.put, nz1, nz2, nz3]
  focus (refine takeN 1 (v := ?_) rfl (by kernel_rfl) ?_ ?_; rotate_left; focus (intro w hSw; clear hSw; go_simp; try with_reducible rfl))
  try simp only [Act.put, nz1, nz2, nz3]
  focus (refine takeN 2 (v := ?_) rfl (by kernel_rfl) ?_ ?_; rotate_left; focus (intro w hSw; clear hSw; go_simp; try with_reducible rfl))
  try simp only [Act.put, nz1, nz2, nz3]
  refine takeN 4 rfl (by kernel_rfl) (yield_loads rfl rowT30 rfl (by (first | (apply FindsX.box; (· (repeat constructor)); (· (repeat constructor)); done) | (refine FindsX.mem (by assumption) ?_; first | rfl | assumption | (simp; done))))) ?_
  try simp only [Act.put, nz1, nz2, nz3]
  refine wpAnyH_ready (rs := [3, 5]) (by kernel_rfl) (by simp) ?_
  refine consL 3 rfl (fun K hK => ?_) (consL 5 rfl (fun K hK => ?_) AllReadyH.nil)
  rotate_right
  focus
    (with_reducible apply s_lit el_hits hS (cs := [.int .i64 h.dist, .int .i64 h.id])); (· decide); (· decide); (· kernel_rfl); clear hS; intro w17 b17 hS
    refine hK.out _ _ (by first | exact (hS.sx0.cons hS (by (repeat constructor))) | exact Sx.le (by assumption) (hS.sx0.cons hS (by (repeat constructor)))) (fun hHeld => ?_)
    clear hK K
    try simp only [Act.put, nz1, nz2, nz3]
    refine wpAnyH_ready (rs := [3]) (by kernel_rfl) (by simp) ?_
    refine consL 3 rfl (fun K hK => ?_) AllReadyH.nil
    (with_reducible apply s_load hS); (· exact Try.underlying67); (· exact rfl); (· exact rfl); (· (first | (apply Find.box; (· (repeat constructor)); rfl) | exact Find.mem (by assumption) | (apply Find.row; (· (repeat constructor)); assumption)))
    refine hK.out _ _ (by first | exact (hS.sx0.cons hS (by (repeat constructor))) | exact Sx.le (by assumption) (hS.sx0.cons hS (by (repeat constructor)))) (fun hHeld => ?_)
    clear hK K
    try simp only [Act.put, nz1, nz2, nz3]
    refine wpAnyH_ready (rs := [6]) (by kernel_rfl) (by simp) ?_
    refine consL 6 rfl (fun K hK => ?_) AllReadyH.nil
    (with_reducible apply s_appendB el_hits hS (by decide)); (· exact rfl); (· (repeat constructor)); (· exact rfl); (· (repeat constructor)); (· rfl); (· simp [Value.oneCell']); (· omega); clear hS; intro w18 q18 c18 hS
    refine hK.out _ _ (by first | exact (hS.sx0.cons hS (by (repeat constructor))) | exact Sx.le (by assumption) (hS.sx0.cons hS (by (repeat constructor)))) (fun hHeld => ?_)
    clear hK K
    try simp only [Act.put, nz1, nz2, nz3]
    focus (refine takeN 7 (v := ?_) rfl (by kernel_rfl) ?_ ?_; rotate_left; focus (intro w hSw; clear hSw; go_simp; try with_reducible rfl))
    try simp only [Act.put, nz1, nz2, nz3]
    refine wpAnyH_ready (rs := [8]) (by kernel_rfl) (by simp) ?_
    refine consL 8 rfl (fun K hK => ?_) AllReadyH.nil
    (with_reducible apply s_store hS); (· exact rowT67); (· exact rfl); (· (first | (go_simp; done) | (go_simp; with_reducible rfl))); (· (first | rfl | assumption | (simp [Value.oneCell']; done))); (· (repeat constructor)); (· (repeat constructor)); (· (repeat constructor)); clear hS; intro ws hS
    refine hK.out _ _ (by first | exact (hS.sx0.cons hS (by (repeat constructor))) | exact Sx.le (by assumption) (hS.sx0.cons hS (by (repeat constructor)))) (fun hHeld => ?_)
    clear hK K
    try simp only [Act.put, nz1, nz2, nz3]
    refine wpAnyH_done (by kernel_rfl) ?_ _
    refine NoPanic.normal ?_
  rotate_right
  focus
    (with_reducible apply s_load hS); (· exact Try.underlying67); (· exact rfl); (· exact rfl); (· (first | (apply Find.box; (· (repeat constructor)); rfl) | exact Find.mem (by assumption) | (apply Find.row; (· (repeat constructor)); assumption)))
    refine hK.out _ _ (by first | exact (hS.sx0.cons hS (by (repeat constructor))) | exact Sx.le (by assumption) (hS.sx0.cons hS (by (repeat constructor)))) (fun hHeld => ?_)
    clear hK K
    try simp only [Act.put, nz1, nz2, nz3]
    refine wpAnyH_ready (rs := [5]) (by kernel_rfl) (by simp) ?_
    refine consL 5 rfl (fun K hK => ?_) AllReadyH.nil
    (with_reducible apply s_lit el_hits hS (cs := [.int .i64 h.dist, .int .i64 h.id])); (· decide); (· decide); (· kernel_rfl); clear hS; intro w17 b17 hS
    refine hK.out _ _ (by first | exact (hS.sx0.cons hS (by (repeat constructor))) | exact Sx.le (by assumption) (hS.sx0.cons hS (by (repeat constructor)))) (fun hHeld => ?_)
    clear hK K
    try simp only [Act.put, nz1, nz2, nz3]
    refine wpAnyH_ready (rs := [6]) (by kernel_rfl) (by simp) ?_
    refine consL 6 rfl (fun K hK => ?_) AllReadyH.nil
    (with_reducible apply s_appendB el_hits hS (by decide)); (· exact rfl); (· (repeat constructor)); (· exact rfl); (· (repeat constructor)); (· rfl); (· simp [Value.oneCell']); (· omega); clear hS; intro w18 q18 c18 hS
    refine hK.out _ _ (by first | exact (hS.sx0.cons hS (by (repeat constructor))) | exact Sx.le (by assumption) (hS.sx0.cons hS (by (repeat constructor)))) (fun hHeld => ?_)
    clear hK K
    try simp only [Act.put, nz1, nz2, nz3]
    focus (refine takeN 7 (v := ?_) rfl (by kernel_rfl) ?_ ?_; rotate_left; focus (intro w hSw; clear hSw; go_simp; try with_reducible rfl))
    try simp only [Act.put, nz1, nz2, nz3]
    refine wpAnyH_ready (rs := [8]) (by kernel_rfl) (by simp) ?_
    refine consL 8 rfl (fun K hK => ?_) AllReadyH.nil
    (with_reducible apply s_store hS); (· exact rowT67); (· exact rfl); (· (first | (go_simp; done) | (go_simp; with_reducible rfl))); (· (first | rfl | assumption | (simp [Value.oneCell']; done))); (· (repeat constructor)); (· (repeat constructor)); (· (repeat constructor)); clear hS; intro ws hS
    refine hK.out _ _ (by first | exact (hS.sx0.cons hS (by (repeat constructor))) | exact Sx.le (by assumption) (hS.sx0.cons hS (by (repeat constructor)))) (fun hHeld => ?_)
    clear hK K
    try simp only [Act.put, nz1, nz2, nz3]
    refine wpAnyH_done (by kernel_rfl) ?_ _
    refine NoPanic.normal ?_
  all_goals
    go_wp2_with fail
    go_end0
    rw [cellsH_snoc] at hS
    exact ⟨rfl, q18, c18, ((hS.forget (x := .box b17 _) (by (repeat constructor))).forget (x := .box b4 _) (by (repeat constructor))).front (x := .box b _) (by (repeat constructor))⟩
end Go.Proofs.Ytlkdjmpkapeppaa
/- Contract of hits' Pop. -/
namespace Go.Proofs.Ytlkdjmpkapeppaa
set_option linter.unusedVariables false
set_option linter.unusedSimpArgs false
open Go.RowKit
theorem ownsRow_take {w : World} {B size n g c k : Nat} {e : TypeId} {xs : List Value} (h : w.ownsRow B e size (.slice (some ⟨g, 0, none⟩) n c) n xs) (hk : k ≤ n) : w.ownsRow B e size (.slice (some ⟨g, 0, none⟩) k c) k (xs.take (k * size)) := by
  have hm : k * size ≤ n * size := Nat.mul_le_mul_right _ hk
  refine ⟨by rw [List.length_take, h.1]; omega, ?_⟩
  rcases h.2 with ⟨e, _⟩ | ⟨g', cap, cur, e, hb, hg, h1, h2, h3, h4⟩
  · cases e
  · cases e
    refine .inr ⟨g, c, cur, rfl, hb, hg, by omega, h2, h3, ?_⟩
    rw [← h4, List.take_take, Nat.min_eq_left hm]
theorem St.shrink {X : List Nat} {w0 w : World} {m0 m : Mem} {es : List Ent} (h : St X w0 m0 w es m) (i : Nat) {e : TypeId} {size n g c : Nat} {xs : List Value} (hi : es[i]? = some (.row e size (.slice (some ⟨g, 0, none⟩) n c) n xs)) (k : Nat) (hk : k ≤ n) :
    St X w0 m0 w (es.set i (.row e size (.slice (some ⟨g, 0, none⟩) k c) k (xs.take (k * size)))) m :=
  h.set i _ _ hi ⟨rfl, rfl, rfl, Nat.le_refl _, fun _ _ _ => rfl⟩ (ownsRow_take (h.row i hi) hk) fun _ h => .inl h
theorem cellsH_take (l : List Hit) (k : Nat) : (cellsH l).take (k * 2) = cellsH (l.take k) := by
  induction l generalizing k with
  | nil => simp [cellsH]
  | cons x l ih =>
    cases k with
    | zero => simp [cellsH]
    | succ k =>
      have := ih k
      simp only [cellsH, List.flatMap_cons, List.take_succ_cons] at this ⊢
      rw [← this, show (k + 1) * 2 = (hitC x).length + k * 2 by simp [hitC]; omega, List.take_append]
      simp
      exact List.take_of_length_le (by omega)
set_option maxRecDepth 100000 in
set_option maxHeartbeats 4000000 in
theorem hpop_c (X : List Nat) (w w0 : World) (m m0 : Mem) (b g c n : Nat) (l : List Hit) (hn : l.length = n + 1) (hS : St X w0 m0 w [.box b [.slice (some ⟨g, 0, none⟩) (n + 1) c], rowQ (some ⟨g, 0, none⟩) c (n + 1) (cellsH l)] m) (hl : n ≤ 1000) :
    Calls Try.prog 112 #[.pointer (some ⟨b, 0, none⟩)] w fun e w' => e = .returned (.iface 30 (.agg #[.int .i64 (l.getD n hz).dist, .int .i64 (l.getD n hz).id])) ∧ St X w0 m0 w' [.box b [.slice (some ⟨g, 0, none⟩) n c], rowQ (some ⟨g, 0, none⟩) c n (cellsH (l.take n))] m := by
  have hx := rowGet (l := l) n (by omega)
  generalize l.getD n hz = x at *
  have hc : Hid (n + 1 ≤ c ∧ c ≤ maxLen) := by
    rcases (hS.row 1 rfl).2 with ⟨e, _⟩ | ⟨g', cap, cur, e, _, _, h1, h2, _⟩
    · cases e
    · cases e; exact ⟨h1, h2⟩
  have h1 := hc.out.1
  have h2 : ¬ (c : Int) < (n : Int) := by omega
  have h3 : ¬ ((n + 1 : Nat) : Int) ≤ (n : Int) := by omega
  clear hn
  go_enter Try.func112, Try.ntmps112
  go_wp2_with (first 
    | ((with_reducible refine' Wl.out ?_; apply k_alloc hS); (· exact .mk); clear hS; intro _ _ hS)
    | ((with_reducible refine' Wl.out ?_; apply k_load hS); (· exact .mk))
    | ((with_reducible refine' Wl.out ?_; apply k_loads hS); (· exact .mk))
    | ((with_reducible refine' Wl.out ?_; apply k_store hS); (· exact .mk); clear hS; intro ws hS)
    | ((with_reducible refine' Wl.out ?_; apply k_storeR hS); (· exact .mk); clear hS; intro ws hS)
    | ((with_reducible refine' Wl.out ?_; apply k_stores hS); (· exact .mk); clear hS; intro ws hS))
  go_ret
  have h5 := (hS.shrink 2 rfl n (by omega)).drop _ (List.sublist_cons_self _ _)
  rw [cellsH_take] at h5
  exact ⟨rfl, h5⟩
end Go.Proofs.Ytlkdjmpkapeppaa
/- A method called through an interface: a rule of the walk. -/
namespace Go.Proofs.Ytlkdjmpkapeppaa
set_option linter.unusedVariables false
set_option linter.unusedSimpArgs false
open Go.RowKit Go.Shelf
variable {ops : Array Oper} {P : Program} {X : List Nat} {w0 w : World} {m0 m : Mem} {es : List Ent} {o : Oper} {a : Act} {K : Act → World → Prop} {Q : Exit → Act → World → Prop}
variable {rest : List Oper} {dst : Option Tmp} {rt : TypeId} {pos : String} {af : Array Edge} {E : Prop} {g : Nat × Bool}
theorem op_invoke {x : Operand} {name : String} {args : Array Operand} {ats : Array TypeId} {t : TypeId} {v recv : Value} {f : FuncId} {l : List Value} (ho : o.op = .call { callee := .invoke x name, args := args, argTypes := ats }) (hx : a.eval x = .iface t v)
    (hm : (method (P.types.size + Made.depth) t v name).run P w = .ok (f, recv) w) (he : Enters P f) (has : recv :: args.toList.map a.eval = l) (h : Calls P f l.toArray w fun e w' => ∃ v, e = .returned v ∧ K (a.put o.dst v) w') : o.wp P a w K Q := by
  have hrun : (execOp a.eval o).run P w = .ok (.enter f l.toArray) w := by
    unfold execOp
    simp only [ho, resolve, Sem.run_bind, Sem.run_pure, Result.andThen_ok, hx, invoke, callMethod]
    have e0 : (#[Value.iface t v] ++ args.map a.eval)[0]? = some (Value.iface t v) := by rw [Array.getElem?_append_left (by simp)]; rfl
    have e1 : (#[Value.iface t v] ++ args.map a.eval).extract 1 (#[Value.iface t v] ++ args.map a.eval).size = args.map a.eval := by
      simp [Array.extract_append]
    simp only [e0, e1, Sem.run_bind, run_program, Result.andThen_ok, hm]
    have e2 : #[recv] ++ args.map a.eval = l.toArray := by
      rw [← has]
      apply Array.ext'
      simp
    rw [e2]
    exact he _ w
  unfold Oper.wp
  rw [hrun]
  show Calls P f l.toArray w _
  refine h.mono fun e w' hh => ?_
  obtain ⟨v, rfl, hk⟩ := hh
  exact hk
theorem wl_invoke {x : Operand} {name : String} {args : Array Operand} {ats : Array TypeId} {t : TypeId} {v recv : Value} {f : FuncId} {l : List Value} (hx : a.eval x = .iface t v)
    (hm : (method (P.types.size + Made.depth) t v name).run P w = .ok (f, recv) w) (he : Enters P f) (has : recv :: args.toList.map a.eval = l) (h : Calls P f l.toArray w fun e w' => ∃ v, e = .returned v ∧ wpList P ops Q rest (a.put dst v) w') :
    Wl P ops Q (⟨dst, .call { callee := .invoke x name, args := args, argTypes := ats }, rt, pos, af, none⟩ :: rest) a w :=
  ⟨wpList_plain rfl fun K hK => op_invoke rfl hx hm he has (h.mono fun e w' ⟨v, e1, h1⟩ => ⟨v, e1, hK _ _ h1⟩)⟩
theorem wg_invoke {x : Operand} {name : String} {args : Array Operand} {ats : Array TypeId} {t : TypeId} {v recv : Value} {f : FuncId} {l : List Value} (hw : Region.wanted ⟨dst, .call { callee := .invoke x name, args := args, argTypes := ats }, rt, pos, af, some g⟩ (yielded ops a.tmps) = true) (hx : a.eval x = .iface t v)
    (hm : (method (P.types.size + Made.depth) t v name).run P w = .ok (f, recv) w) (he : Enters P f) (has : recv :: args.toList.map a.eval = l) (h : Calls P f l.toArray w fun e w' => ∃ v, e = .returned v ∧ wpList P ops Q rest (a.put dst v) w') :
    Wl P ops Q (⟨dst, .call { callee := .invoke x name, args := args, argTypes := ats }, rt, pos, af, some g⟩ :: rest) a w :=
  ⟨wpList_step fun K hK => step_guard hw (op_invoke rfl hx hm he has (h.mono fun e w' ⟨v, e1, h1⟩ => ⟨v, e1, hK _ _ h1⟩))⟩
theorem s_invoke {x : Operand} {name : String} {args : Array Operand} {ats : Array TypeId} {t : TypeId} {v recv : Value} {f : FuncId} {l : List Value} (hx : a.eval x = .iface t v)
    (hm : (method (P.types.size + Made.depth) t v name).run P w = .ok (f, recv) w) (he : Enters P f) (has : recv :: args.toList.map a.eval = l) (h : Calls P f l.toArray w fun e w' => ∃ v, e = .returned v ∧ K (a.put dst v) w') :
    if Region.wanted ⟨dst, .call { callee := .invoke x name, args := args, argTypes := ats }, rt, pos, af, none⟩ (yielded ops a.tmps) = true then Oper.wp P ⟨dst, .call { callee := .invoke x name, args := args, argTypes := ats }, rt, pos, af, none⟩ a w K Q else E :=
  step_of rfl (op_invoke rfl hx hm he has h)
end Go.Proofs.Ytlkdjmpkapeppaa
/- heap.up over hits. -/
namespace Go.Proofs.Ytlkdjmpkapeppaa
set_option linter.unusedVariables false
set_option linter.unusedSimpArgs false
open Go.RowKit Go.Shelf
theorem fuel_e : ∃ n, Try.prog.types.size + Made.depth = n + 1 := ⟨Try.prog.types.size + 99, by unfold Made.depth; omega⟩
/-- A heap that is handed on: where the slice lies, and its row. -/
abbrev esH (b g c n : Nat) (l : List Hit) : List Ent := [.box b [.slice (some ⟨g, 0, none⟩) n c], rowH g c n (cellsH l)]
abbrev pH (b : Nat) : Value := .pointer (some ⟨b, 0, none⟩)
theorem ent_len : Enters Try.prog 109 := enters_of Try.func109 (by kernel_rfl) rfl
theorem ent_less : Enters Try.prog 110 := enters_of Try.func110 (by kernel_rfl) rfl
theorem ent_swap : Enters Try.prog 111 := enters_of Try.func111 (by kernel_rfl) rfl
theorem ent_push : Enters Try.prog 113 := enters_of Try.func113 (by kernel_rfl) rfl
theorem ent_pop : Enters Try.prog 112 := enters_of Try.func112 (by kernel_rfl) rfl
section
variable {X : List Nat} {w0 w : World} {m0 m : Mem} {b g c n : Nat} {l : List Hit}
theorem St.ptrH {s : Value} {es : List Ent} (hS : St X w0 m0 w (.box b [s] :: es) m) : w.cell? ⟨b, 0, none⟩ = some s := ((hS.box 0 rfl).get 0 s rfl).1
theorem St.hitsAt (hS : St X w0 m0 w (esH b g c n l) m) : HitsAt w g l := fun j v hj => by
  have := (hS.row 1 rfl).cells (g := g) rfl j v hj
  rwa [Addr.add_lit, Nat.zero_add] at this
theorem less_m (hS : St X w0 m0 w (esH b g c n l) m) : (method (Try.prog.types.size + Made.depth) 69 (pH b) "Less").run Try.prog w = .ok (110, .slice (some ⟨g, 0, none⟩) n c) w := by
  obtain ⟨k, e⟩ := fuel_e; rw [e]; exact meth_less _ b _ w hS.ptrH
theorem swap_m (hS : St X w0 m0 w (esH b g c n l) m) : (method (Try.prog.types.size + Made.depth) 69 (pH b) "Swap").run Try.prog w = .ok (111, .slice (some ⟨g, 0, none⟩) n c) w := by
  obtain ⟨k, e⟩ := fuel_e; rw [e]; exact meth_swap _ b _ w hS.ptrH
theorem len_m {s : Value} {es : List Ent} (hS : St X w0 m0 w (.box b [s] :: es) m) : (method (Try.prog.types.size + Made.depth) 69 (pH b) "Len").run Try.prog w = .ok (109, s) w := by
  obtain ⟨k, e⟩ := fuel_e; rw [e]; exact meth_len _ b _ w hS.ptrH
theorem push_m : (method (Try.prog.types.size + Made.depth) 69 (pH b) "Push").run Try.prog w = .ok (113, pH b) w := by obtain ⟨k, e⟩ := fuel_e; rw [e]; exact meth_push _ b w
theorem pop_m : (method (Try.prog.types.size + Made.depth) 69 (pH b) "Pop").run Try.prog w = .ok (112, pH b) w := by obtain ⟨k, e⟩ := fuel_e; rw [e]; exact meth_pop _ b w
/-- Less, at a heap that is handed on. -/
theorem hless_n (hS : St X w0 m0 w (esH b g c n l) m) (hn : l.length = n) (i k : Nat) (hi : i < n) (hk : k < n) : Calls Try.prog 110 #[.slice (some ⟨g, 0, none⟩) n c, .int .i64 i, .int .i64 k] w fun e w' =>
    e = .returned (.bool (decide ((l.getD k hz).lt (l.getD i hz)))) ∧ St X w0 m0 w' (esH b g c n l) m := by
  subst hn
  refine (hless_c w g c l hS.hitsAt i k hi hk).mono ?_
  rintro e w' ⟨v, m', rfl, rfl, hk⟩
  exact ⟨rfl, hS.grow (grownBy_of_below hk.below)⟩
/-- Swap, at a heap that is handed on. -/
theorem hswap_n (hS : St X w0 m0 w (esH b g c n l) m) (hn : l.length = n) (i k : Nat) (hi : i < n) (hk : k < n) : Calls Try.prog 111 #[.slice (some ⟨g, 0, none⟩) n c, .int .i64 i, .int .i64 k] w fun e w' =>
    e = .returned (.tuple #[]) ∧ St X w0 m0 w' (esH b g c n (swapL l i k)) m := by
  subst hn
  have h1 := hS.front (x := rowH g c l.length (cellsH l)) (by (repeat constructor))
  refine (hswap_c _ w w m m g c l (St.sub (ls := [_]) h1) i k hi hk).mono ?_
  rintro e w' ⟨rfl, hk⟩
  exact ⟨rfl, (St.lendL (ls := [_]) h1 hk).front (x := .box b _) (by (repeat constructor))⟩
end
end Go.Proofs.Ytlkdjmpkapeppaa
/- heap.up over hits. -/
namespace Go.Proofs.Ytlkdjmpkapeppaa
set_option linter.unusedVariables false
set_option linter.unusedSimpArgs false
open Go.RowKit Go.Shelf
theorem upL_step {l : List Hit} {j : Nat} (h : (l.getD ((j - 1) / 2) hz).lt (l.getD j hz)) (h0 : 0 < j) : upL (j + 1) l j = upL ((j - 1) / 2 + 1) (swapL l ((j - 1) / 2) j) ((j - 1) / 2) := by
  have hm : ∀ f f' (l : List Hit) (j : Nat), j < f → j < f' → upL f l j = upL f' l j := by
    intro f
    induction f with
    | zero => intro f' l j h; omega
    | succ f ih =>
      intro f' l j h1 h2
      cases f' with
      | zero => omega
      | succ f' =>
        unfold upL
        split
        · exact ih f' _ _ (by omega) (by omega)
        · rfl
  rw [upL, if_pos ⟨h0, h⟩]
  exact hm _ _ _ _ (by omega) (by omega)
theorem upL_stop {l : List Hit} {j : Nat} (h : ¬ (0 < j ∧ (l.getD ((j - 1) / 2) hz).lt (l.getD j hz))) : upL (j + 1) l j = l := by rw [upL, if_neg h]
set_option maxRecDepth 100000 in
set_option maxHeartbeats 4000000 in
theorem up_c {X : List Nat} {w0 w : World} {m0 m : Mem} {b g c n : Nat} {l R : List Hit} (hS : St X w0 m0 w (esH b g c n l) m) (hn : l.length = n) (hN : n ≤ 1000) (j : Nat) (hj : j < n) (hR : upL (j + 1) l j = R) :
    Calls Try.prog 57 #[.iface 69 (pH b), .int .i64 j] w fun e w' => e = .returned (.tuple #[]) ∧ St X w0 m0 w' (esH b g c n R) m := by
  go_enter Try.func57, Try.ntmps57
  go_wp2_with fail
  go_loopw [1] (fun vj wr => ∃ (j : Nat) (L : List Hit), vj = .int .i64 j ∧ j < n ∧ L.length = n ∧ Hid (upL (j + 1) L j = R) ∧ St X w0 m0 wr (esH b g c n L) m) (fun vj _ => (intOf vj).toNat)
  case atStart => exact ⟨j, l, rfl, hj, hn, hR, hS⟩
  case round =>
    clear hS hn hj hR l j
    obtain ⟨j, L, rfl, hj, hL, hR, hS⟩ := hrel
    have HL := Lib.hid hL
    clear hL
    cases j with
    | zero =>
      go_wp2_with fail
      rw [upL_stop (by omega)] at hR
      obtain rfl := hR.out
      exact bodyPost_end (v := .tuple #[]) (by kernel_rfl) rfl ⟨rfl, hS⟩
    | succ k =>
      have hi : k / 2 < n := by omega
      have hne : ¬ (((k : Int) / 2) = (k : Int) + 1) := by omega
      rcases Decidable.em ((L.getD (k / 2) hz).lt (L.getD (k + 1) hz)) with hlt | hlt
      · have hR2 : Hid (upL (k / 2 + 1) (swapL L (k / 2) (k + 1)) (k / 2) = R) := by
          have := upL_step (l := L) (j := k + 1) hlt (by omega)
          exact (this.symm.trans hR.out)
        clear hR
        go_wp2_with (first | ((with_reducible refine' Wl.out ?_; apply wg_invoke (name := "Less") (l := [.slice (some ⟨g, 0, none⟩) n c, .int .i64 ((k + 1 : Nat)), .int .i64 ((k / 2 : Nat))]) (hm := less_m hS) (he := ent_less)); (· first | rfl | assumption | (go_simp; done)); (· exact rfl); (· exact rfl); refine (hless_n hS HL.out _ _ hj hi).mono ?_; clear hS; rintro e' w15 ⟨he, hS⟩; rw [decide_eq_true hlt] at he; subst he; refine ⟨_, rfl, ?_⟩) | ((with_reducible refine' Wl.out ?_; apply wl_invoke (name := "Swap") (l := [.slice (some ⟨g, 0, none⟩) n c, .int .i64 ((k / 2 : Nat)), .int .i64 ((k + 1 : Nat))]) (hm := swap_m hS) (he := ent_swap)); (· exact rfl); (· exact rfl); refine (hswap_n hS HL.out _ _ hi hj).mono ?_; clear hS; rintro e' w21 ⟨rfl, hS⟩; refine ⟨_, rfl, ?_⟩))
        go_roundw
        case rel => exact ⟨k / 2, swapL L (k / 2) (k + 1), rfl, hi, (swapL_len _ _ _).trans HL.out, hR2, hS⟩
        case measure => simp [intOf]; omega
      · rw [upL_stop (fun hh => hlt hh.2)] at hR
        obtain rfl := hR.out
        go_wp2_with (first | ((with_reducible refine' Wl.out ?_; apply wg_invoke (name := "Less") (l := [.slice (some ⟨g, 0, none⟩) n c, .int .i64 ((k + 1 : Nat)), .int .i64 ((k / 2 : Nat))]) (hm := less_m hS) (he := ent_less)); (· first | rfl | assumption | (go_simp; done)); (· exact rfl); (· exact rfl); refine (hless_n hS HL.out _ _ hj hi).mono ?_; clear hS; rintro e' w15 ⟨he, hS⟩; rw [decide_eq_false hlt] at he; subst he; refine ⟨_, rfl, ?_⟩))
        exact bodyPost_end (v := .tuple #[]) (by kernel_rfl) rfl ⟨rfl, hS⟩
end Go.Proofs.Ytlkdjmpkapeppaa
/- heap.down over hits. -/
namespace Go.Proofs.Ytlkdjmpkapeppaa
set_option linter.unusedVariables false
set_option linter.unusedSimpArgs false
open Go.RowKit Go.Shelf
/-- The child that is farther. -/
def kidL (l : List Hit) (i n : Nat) : Nat := if 2 * i + 2 < n ∧ (l.getD (2 * i + 1) hz).lt (l.getD (2 * i + 2) hz) then 2 * i + 2 else 2 * i + 1
theorem downL_succ (f : Nat) (l : List Hit) (i n : Nat) : downL (f + 1) l i n = if 2 * i + 1 < n then (if (l.getD i hz).lt (l.getD (kidL l i n) hz) then downL f (swapL l i (kidL l i n)) (kidL l i n) n else l) else l := rfl
theorem kidL_or (l : List Hit) (i n : Nat) : kidL l i n = 2 * i + 1 ∨ kidL l i n = 2 * i + 2 := by unfold kidL; split <;> simp
theorem downL_fuel : ∀ (f f' : Nat) (l : List Hit) (i n : Nat), n ≤ i + f → n ≤ i + f' → downL f l i n = downL f' l i n
  | 0, 0, l, i, n, _, _ => rfl
  | 0, f' + 1, l, i, n, h, _ => by rw [downL_succ, if_neg (by omega)]; rfl
  | f + 1, 0, l, i, n, _, h => by rw [downL_succ, if_neg (by omega)]; rfl
  | f + 1, f' + 1, l, i, n, h1, h2 => by
    have hk := kidL_or l i n
    rw [downL_succ, downL_succ]
    split
    · split
      · exact downL_fuel f f' _ _ _ (by omega) (by omega)
      · rfl
    · rfl
theorem downL_stop {f : Nat} {l : List Hit} {i n : Nat} (h : ¬ (2 * i + 1 < n ∧ (l.getD i hz).lt (l.getD (kidL l i n) hz))) : downL f l i n = l := by
  cases f with
  | zero => rfl
  | succ f =>
    rw [downL_succ]
    split
    · rename_i h1
      rw [if_neg (fun hh => h ⟨h1, hh⟩)]
    · rfl
theorem downL_step {f : Nat} {l : List Hit} {i n : Nat} (hf : n ≤ i + f) (h1 : 2 * i + 1 < n) (h : (l.getD i hz).lt (l.getD (kidL l i n) hz)) : downL f l i n = downL f (swapL l i (kidL l i n)) (kidL l i n) n := by
  cases f with
  | zero => omega
  | succ f =>
    have hk := kidL_or l i n
    conv => lhs; rw [downL_succ, if_pos h1, if_pos h]
    exact downL_fuel _ _ _ _ _ (by omega) (by omega)
set_option maxRecDepth 100000 in
set_option maxHeartbeats 4000000 in
theorem down_c {X : List Nat} {w0 w : World} {m0 m : Mem} {b g c n : Nat} {l R : List Hit} (hS : St X w0 m0 w (esH b g c (n + 1) l) m) (hn : l.length = n + 1) (hN : n ≤ 1000) (hR : downL (n + 1) l 0 n = R) :
    Calls Try.prog 58 #[.iface 69 (pH b), .int .i64 0, .int .i64 n] w fun e w' => (∃ v, e = .returned v) ∧ St X w0 m0 w' (esH b g c (n + 1) R) m := by
  go_enter Try.func58, Try.ntmps58
  go_wp2_with fail
  go_loopw [7] (fun vi wr => ∃ (i : Nat) (L : List Hit), vi = .int .i64 i ∧ i ≤ n ∧ L.length = n + 1 ∧ Hid (downL (n + 1) L i n = R) ∧ St X w0 m0 wr (esH b g c (n + 1) L) m) (fun vi _ => n - (intOf vi).toNat)
  case atStart => exact ⟨0, l, rfl, Nat.zero_le _, hn, hR, hS⟩
  case round =>
    clear hS hn hR l
    obtain ⟨i, L, rfl, hi, hL, hR, hS⟩ := hrel
    have HL := Lib.hid hL
    clear hL
    have hi' : i < n + 1 := by omega
    by_cases h1 : 2 * i + 1 < n
    · have h1' : 2 * i + 1 < n + 1 := by omega
      have hlt1 : ((2 : Int) * i + 1) < n := by omega
      have hge1 : ¬ ((2 : Int) * i + 1) < 0 := by omega
      have hkid : kidL L i n = 2 * i + 1 ∧ (¬ ((2 : Int) * i + 1 + 1) < n ∨ (2 * i + 2 < n ∧ ¬ (L.getD (2 * i + 1) hz).lt (L.getD (2 * i + 2) hz))) ∨ kidL L i n = 2 * i + 2 ∧ ((2 : Int) * i + 1 + 1) < n ∧ (L.getD (2 * i + 1) hz).lt (L.getD (2 * i + 2) hz) := by
        unfold kidL
        split
        · rename_i h; exact .inr ⟨rfl, by omega, h.2⟩
        · rename_i h
          refine .inl ⟨rfl, ?_⟩
          by_cases h2 : 2 * i + 2 < n
          · exact .inr ⟨h2, fun hh => h ⟨h2, hh⟩⟩
          · exact .inl (by omega)
      rcases hkid with ⟨hk, h2 | ⟨h2, h3⟩⟩ | ⟨hk, h2, h3⟩
      · skip
        skip
        by_cases hlt : (L.getD i hz).lt (L.getD (2 * i + 1) hz)
        · have hR2 : Hid (downL (n + 1) (swapL L i (2 * i + 1)) (2 * i + 1) n = R) := by
            have := downL_step (f := n + 1) (by omega) h1 (by rw [hk]; exact hlt)
            rw [hk] at this
            exact this.symm.trans hR.out
          clear hR hk
          go_wp2_with (first  | ((with_reducible refine' Wl.out ?_; apply wl_invoke (name := "Less") (l := [.slice (some ⟨g, 0, none⟩) (n + 1) c, .int .i64 (2 * i + 1 : Nat), .int .i64 (i : Nat)]) (hm := less_m hS) (he := ent_less)); (· exact rfl); (· exact rfl); refine (hless_n hS HL.out _ _ h1' hi').mono ?_; clear hS; rintro e' wl ⟨he, hS⟩; rw [decide_eq_true hlt] at he; subst he; refine ⟨_, rfl, ?_⟩) | ((with_reducible refine' Wl.out ?_; apply wl_invoke (name := "Swap") (l := [.slice (some ⟨g, 0, none⟩) (n + 1) c, .int .i64 (i : Nat), .int .i64 (2 * i + 1 : Nat)]) (hm := swap_m hS) (he := ent_swap)); (· exact rfl); (· exact rfl); refine (hswap_n hS HL.out _ _ hi' h1').mono ?_; clear hS; rintro e' wl ⟨rfl, hS⟩; refine ⟨_, rfl, ?_⟩))
          go_roundw
          case rel => exact ⟨2 * i + 1, swapL L i (2 * i + 1), by first | rfl | (congr 1; omega), by omega, (swapL_len _ _ _).trans HL.out, hR2, hS⟩
          case measure => simp [intOf]; omega
        · rw [downL_stop (fun hh => hlt (by rw [← hk]; exact hh.2))] at hR
          obtain rfl := hR.out
          clear hR hk
          go_wp2_with (first  | ((with_reducible refine' Wl.out ?_; apply wl_invoke (name := "Less") (l := [.slice (some ⟨g, 0, none⟩) (n + 1) c, .int .i64 (2 * i + 1 : Nat), .int .i64 (i : Nat)]) (hm := less_m hS) (he := ent_less)); (· exact rfl); (· exact rfl); refine (hless_n hS HL.out _ _ h1' hi').mono ?_; clear hS; rintro e' wl ⟨he, hS⟩; rw [decide_eq_false hlt] at he; subst he; refine ⟨_, rfl, ?_⟩))
          (go_ret; exact ⟨⟨_, rfl⟩, hS⟩)
      · have h2' : 2 * i + 2 < n + 1 := by omega
        have h2z : ((2 : Int) * i + 1 + 1) < n := by omega
        skip
        by_cases hlt : (L.getD i hz).lt (L.getD (2 * i + 1) hz)
        · have hR2 : Hid (downL (n + 1) (swapL L i (2 * i + 1)) (2 * i + 1) n = R) := by
            have := downL_step (f := n + 1) (by omega) h1 (by rw [hk]; exact hlt)
            rw [hk] at this
            exact this.symm.trans hR.out
          clear hR hk
          go_wp2_with (first | ((with_reducible refine' Wl.out ?_; apply wg_invoke (name := "Less") (l := [.slice (some ⟨g, 0, none⟩) (n + 1) c, .int .i64 (2 * i + 2 : Nat), .int .i64 (2 * i + 1 : Nat)]) (hm := less_m hS) (he := ent_less)); (· first | rfl | assumption | (go_simp; done)); (· exact rfl); (· exact rfl); refine (hless_n hS HL.out _ _ h2' h1').mono ?_; clear hS; rintro e' wl ⟨he, hS⟩; rw [decide_eq_false h3] at he; subst he; refine ⟨_, rfl, ?_⟩) | ((with_reducible refine' Wl.out ?_; apply wl_invoke (name := "Less") (l := [.slice (some ⟨g, 0, none⟩) (n + 1) c, .int .i64 (2 * i + 1 : Nat), .int .i64 (i : Nat)]) (hm := less_m hS) (he := ent_less)); (· exact rfl); (· exact rfl); refine (hless_n hS HL.out _ _ h1' hi').mono ?_; clear hS; rintro e' wl ⟨he, hS⟩; rw [decide_eq_true hlt] at he; subst he; refine ⟨_, rfl, ?_⟩) | ((with_reducible refine' Wl.out ?_; apply wl_invoke (name := "Swap") (l := [.slice (some ⟨g, 0, none⟩) (n + 1) c, .int .i64 (i : Nat), .int .i64 (2 * i + 1 : Nat)]) (hm := swap_m hS) (he := ent_swap)); (· exact rfl); (· exact rfl); refine (hswap_n hS HL.out _ _ hi' h1').mono ?_; clear hS; rintro e' wl ⟨rfl, hS⟩; refine ⟨_, rfl, ?_⟩))
          go_roundw
          case rel => exact ⟨2 * i + 1, swapL L i (2 * i + 1), by first | rfl | (congr 1; omega), by omega, (swapL_len _ _ _).trans HL.out, hR2, hS⟩
          case measure => simp [intOf]; omega
        · rw [downL_stop (fun hh => hlt (by rw [← hk]; exact hh.2))] at hR
          obtain rfl := hR.out
          clear hR hk
          go_wp2_with (first | ((with_reducible refine' Wl.out ?_; apply wg_invoke (name := "Less") (l := [.slice (some ⟨g, 0, none⟩) (n + 1) c, .int .i64 (2 * i + 2 : Nat), .int .i64 (2 * i + 1 : Nat)]) (hm := less_m hS) (he := ent_less)); (· first | rfl | assumption | (go_simp; done)); (· exact rfl); (· exact rfl); refine (hless_n hS HL.out _ _ h2' h1').mono ?_; clear hS; rintro e' wl ⟨he, hS⟩; rw [decide_eq_false h3] at he; subst he; refine ⟨_, rfl, ?_⟩) | ((with_reducible refine' Wl.out ?_; apply wl_invoke (name := "Less") (l := [.slice (some ⟨g, 0, none⟩) (n + 1) c, .int .i64 (2 * i + 1 : Nat), .int .i64 (i : Nat)]) (hm := less_m hS) (he := ent_less)); (· exact rfl); (· exact rfl); refine (hless_n hS HL.out _ _ h1' hi').mono ?_; clear hS; rintro e' wl ⟨he, hS⟩; rw [decide_eq_false hlt] at he; subst he; refine ⟨_, rfl, ?_⟩))
          (go_ret; exact ⟨⟨_, rfl⟩, hS⟩)
      · have h2' : 2 * i + 2 < n + 1 := by omega
        skip
        by_cases hlt : (L.getD i hz).lt (L.getD (2 * i + 2) hz)
        · have hR2 : Hid (downL (n + 1) (swapL L i (2 * i + 2)) (2 * i + 2) n = R) := by
            have := downL_step (f := n + 1) (by omega) h1 (by rw [hk]; exact hlt)
            rw [hk] at this
            exact this.symm.trans hR.out
          clear hR hk
          go_wp2_with (first | ((with_reducible refine' Wl.out ?_; apply wg_invoke (name := "Less") (l := [.slice (some ⟨g, 0, none⟩) (n + 1) c, .int .i64 (2 * i + 2 : Nat), .int .i64 (2 * i + 1 : Nat)]) (hm := less_m hS) (he := ent_less)); (· first | rfl | assumption | (go_simp; done)); (· exact rfl); (· exact rfl); refine (hless_n hS HL.out _ _ h2' h1').mono ?_; clear hS; rintro e' wl ⟨he, hS⟩; rw [decide_eq_true h3] at he; subst he; refine ⟨_, rfl, ?_⟩) | ((with_reducible refine' Wl.out ?_; apply wl_invoke (name := "Less") (l := [.slice (some ⟨g, 0, none⟩) (n + 1) c, .int .i64 (2 * i + 2 : Nat), .int .i64 (i : Nat)]) (hm := less_m hS) (he := ent_less)); (· exact rfl); (· exact rfl); refine (hless_n hS HL.out _ _ h2' hi').mono ?_; clear hS; rintro e' wl ⟨he, hS⟩; rw [decide_eq_true hlt] at he; subst he; refine ⟨_, rfl, ?_⟩) | ((with_reducible refine' Wl.out ?_; apply wl_invoke (name := "Swap") (l := [.slice (some ⟨g, 0, none⟩) (n + 1) c, .int .i64 (i : Nat), .int .i64 (2 * i + 2 : Nat)]) (hm := swap_m hS) (he := ent_swap)); (· exact rfl); (· exact rfl); refine (hswap_n hS HL.out _ _ hi' h2').mono ?_; clear hS; rintro e' wl ⟨rfl, hS⟩; refine ⟨_, rfl, ?_⟩))
          go_roundw
          case rel => exact ⟨2 * i + 2, swapL L i (2 * i + 2), by first | rfl | (congr 1; omega), by omega, (swapL_len _ _ _).trans HL.out, hR2, hS⟩
          case measure => simp [intOf]; omega
        · rw [downL_stop (fun hh => hlt (by rw [← hk]; exact hh.2))] at hR
          obtain rfl := hR.out
          clear hR hk
          go_wp2_with (first | ((with_reducible refine' Wl.out ?_; apply wg_invoke (name := "Less") (l := [.slice (some ⟨g, 0, none⟩) (n + 1) c, .int .i64 (2 * i + 2 : Nat), .int .i64 (2 * i + 1 : Nat)]) (hm := less_m hS) (he := ent_less)); (· first | rfl | assumption | (go_simp; done)); (· exact rfl); (· exact rfl); refine (hless_n hS HL.out _ _ h2' h1').mono ?_; clear hS; rintro e' wl ⟨he, hS⟩; rw [decide_eq_true h3] at he; subst he; refine ⟨_, rfl, ?_⟩) | ((with_reducible refine' Wl.out ?_; apply wl_invoke (name := "Less") (l := [.slice (some ⟨g, 0, none⟩) (n + 1) c, .int .i64 (2 * i + 2 : Nat), .int .i64 (i : Nat)]) (hm := less_m hS) (he := ent_less)); (· exact rfl); (· exact rfl); refine (hless_n hS HL.out _ _ h2' hi').mono ?_; clear hS; rintro e' wl ⟨he, hS⟩; rw [decide_eq_false hlt] at he; subst he; refine ⟨_, rfl, ?_⟩))
          (go_ret; exact ⟨⟨_, rfl⟩, hS⟩)
    · rw [downL_stop (fun hh => h1 hh.1)] at hR
      obtain rfl := hR.out
      go_wp2_with fail
      all_goals (go_ret; exact ⟨⟨_, rfl⟩, hS⟩)
end Go.Proofs.Ytlkdjmpkapeppaa
/- heap.Push, heap.Pop over hits. -/
namespace Go.Proofs.Ytlkdjmpkapeppaa
set_option linter.unusedVariables false
set_option linter.unusedSimpArgs false
open Go.RowKit Go.Shelf
/-- A heap that may be nil. -/
abbrev esQ (b : Nat) (q : Option Addr) (c n : Nat) (l : List Hit) : List Ent := [.box b [.slice q n c], rowQ q c n (cellsH l)]
abbrev hitV (h : Hit) : Value := .iface 30 (.agg #[.int .i64 h.dist, .int .i64 h.id])
theorem ownsRow_some {w : World} {e : TypeId} {q : Option Addr} {c n : Nat} {xs : List Value} (h : w.ownsRow 0 e 2 (.slice q n c) n xs) (h0 : 0 < n) : ∃ g, q = some ⟨g, 0, none⟩ := by
  rcases h.2 with ⟨e, h1⟩ | ⟨g, cap, cur, e, _⟩
  · cases e
    omega
  · cases e; exact ⟨g, rfl⟩
set_option maxRecDepth 100000 in
set_option maxHeartbeats 4000000 in
theorem push_c {X : List Nat} {w0 w : World} {m0 m : Mem} {b c n : Nat} {q : Option Addr} {l : List Hit} (h : Hit) (hS : St X w0 m0 w (esQ b q c n l) m) (hn : l.length = n) (hN : n ≤ 900) :
    Calls Try.prog 35 #[.iface 69 (pH b), hitV h] w fun e w' => e = .returned (.tuple #[]) ∧ ∃ g c', St X w0 m0 w' (esH b g c' (n + 1) (pushL l h)) m := by
  subst hn
  have hlen : Hid ((l ++ [h]).length = l.length + 1) := by show _ = _; simp
  go_enter Try.func35, Try.ntmps35
  go_wp2_with (first
    | ((with_reducible refine' Wl.out ?_; apply wl_invoke (name := "Push") (l := [pH b, hitV h]) (hm := push_m) (he := ent_push)); (· exact rfl); (· exact rfl); refine (hpush_c X w w0 m m0 b q c l h hS (by omega)).mono ?_; clear hS; rintro e' w6 ⟨rfl, q', c', hS⟩; obtain ⟨g, rfl⟩ := ownsRow_some (hS.row 1 rfl) (by omega); refine ⟨_, rfl, ?_⟩)
    | ((with_reducible refine' Wl.out ?_; apply wl_invoke (name := "Len") (l := [.slice (some ⟨g, 0, none⟩) (l.length + 1) c']) (hm := len_m hS) (he := ent_len)); (· exact rfl); (· exact rfl); refine (hlen_c _ _ _ _).mono ?_; rintro e' w9 ⟨rfl, rfl⟩; refine ⟨_, rfl, ?_⟩)
    | (go_at_call 57; refine (up_c (n := l.length + 1) (l := l ++ [h]) hS hlen.out (by omega) l.length (by omega) rfl).mono ?_; clear hS; rintro e' w11 ⟨rfl, hS⟩))
  exact bodyPost_end (v := .tuple #[]) (by kernel_rfl) rfl ⟨rfl, g, c', hS⟩
set_option maxRecDepth 100000 in
set_option maxHeartbeats 4000000 in
theorem pop_c {X : List Nat} {w0 w : World} {m0 m : Mem} {b g c n : Nat} {l : List Hit} (hS : St X w0 m0 w (esH b g c (n + 1) l) m) (hn : l.length = n + 1) (hN : n ≤ 900) :
    Calls Try.prog 36 #[.iface 69 (pH b)] w fun e w' => (∃ v, e = .returned v) ∧ St X w0 m0 w' (esH b g c n (popL l)) m := by
  have hlen : Hid (l.length = n + 1) := hn
  clear hn
  go_enter Try.func36, Try.ntmps36
  go_wp2_with (first
    | ((with_reducible refine' Wl.out ?_; apply wl_invoke (name := "Len") (l := [.slice (some ⟨g, 0, none⟩) (n + 1) c]) (hm := len_m hS) (he := ent_len)); (· exact rfl); (· exact rfl); refine (hlen_c _ _ _ _).mono ?_; rintro e' w9 ⟨rfl, rfl⟩; refine ⟨_, rfl, ?_⟩)
    | ((with_reducible refine' Wl.out ?_; apply wl_invoke (name := "Swap") (l := [.slice (some ⟨g, 0, none⟩) (n + 1) c, .int .i64 (0 : Nat), .int .i64 (n : Nat)]) (hm := swap_m hS) (he := ent_swap)); (· exact rfl); (· exact rfl); refine (hswap_n hS hlen.out _ _ (by omega) (by omega)).mono ?_; clear hS; rintro e' w9 ⟨rfl, hS⟩; refine ⟨_, rfl, ?_⟩)
    | (go_at_call 58; refine (down_c (l := swapL l 0 n) hS ((swapL_len _ _ _).trans hlen.out) (by omega) rfl).mono ?_; clear hS; rintro e' w11 ⟨⟨v11, rfl⟩, hS⟩)
    | ((with_reducible refine' Wl.out ?_; apply wl_invoke (name := "Pop") (l := [pH b]) (hm := pop_m) (he := ent_pop)); (· exact rfl); (· exact rfl); refine (hpop_c X w11 w0 m m0 b g c n _ (((downL_perm _ _ _ _ (by rw [swapL_len, hlen.out]; omega)).2.1).trans ((swapL_len _ _ _).trans hlen.out)) hS (by omega)).mono ?_; clear hS; rintro e' w14 ⟨rfl, hS⟩; refine ⟨_, rfl, ?_⟩))
  have e : popL l = (downL (n + 1) (swapL l 0 n) 0 n).take n := by unfold popL; rw [hlen.out]; rfl
  rw [e]
  go_ret
  exact ⟨⟨_, rfl⟩, hS⟩
end Go.Proofs.Ytlkdjmpkapeppaa
/- Whether there is one among hits: slices.IndexFunc, ContainsFunc. -/
namespace Go.Proofs.Ytlkdjmpkapeppaa
set_option linter.unusedVariables false
set_option linter.unusedSimpArgs false
open Go.RowKit Go.Shelf
abbrev hitA (x : Hit) : Value := .agg #[.int .i64 x.dist, .int .i64 x.id]
/-- A function that tells of hits, at what is known. -/
def Tells (F : FuncId) (cap : Array Value) (m : Mem) (B : Hit → Bool) : Prop := ∀ (w : World), m.In w → ∀ x, Calls Try.prog F (#[hitA x] ++ cap) w (Ret w m fun v _ => v = .bool (B x))
theorem Tells.one {F : FuncId} {p : Value} {m : Mem} {B : Hit → Bool} (h : ∀ (w : World), m.In w → ∀ x, Calls Try.prog F #[hitA x, p] w (Ret w m fun v _ => v = .bool (B x))) : Tells F #[p] m B := fun w hm x => by
  rw [show #[hitA x] ++ #[p] = #[hitA x, p] by simp]
  exact h w hm x
set_option maxRecDepth 100000 in
set_option maxHeartbeats 2000000 in
theorem index_c (m : Mem) (w : World) (hm : m.In w) (q : Option Addr) (c : Nat) (xs : List Hit) (hr : hitL.list.rd m [.slice q xs.length c] xs) (F : FuncId) (cap : Array Value) (B : Hit → Bool) (eg : Enters Try.prog F) (hF : Tells F cap m B) :
    Calls Try.prog 56 #[.slice q xs.length c, .func (.func F) #[] cap] w (Ret w m fun v _ => ∃ i : Int, v = .int .i64 i ∧ (0 ≤ i ∧ i ≤ 9223372036854775807 ∧ xs.any B = true ∨ i = -1 ∧ xs.any B = false)) := by
  have hS := St.start hm
  obtain ⟨q', c', e, h1, h2, h3, hrow⟩ := Lay.list_open hr
  cases e
  have hl : xs.length ≤ 9223372036854775807 := by simp only [maxLen] at h2; omega
  unfold Enters at eg
  have HF := Lib.hid hF
  have HR := Lib.hid hrow
  clear hr h1 h2 h3 hrow hF
  go_enter Try.func56, Try.ntmps56
  go_wp2
  go_loopw [8] (fun i wr => ∃ k : Nat, k ≤ xs.length ∧ i = .int .i64 k ∧ Hid ((xs.take k).any B = false) ∧ St [] w m wr [] m) (fun i _ => xs.length - (intOf i).toNat)
  case atStart => exact ⟨0, Nat.zero_le _, rfl, by simp [Hid], hS⟩
  case round =>
    clear hS
    obtain ⟨k, hk, rfl, hno, hS⟩ := hrel
    by_cases hlt : k < xs.length
    · obtain ⟨b, o, cs, rfl, hcs, hcell⟩ := HR.out.get k hlt
      obtain ⟨rfl, _, _⟩ := hitL_open hcs
      have hcell2 : ∀ j v, [Value.int .i64 xs[k].dist, .int .i64 xs[k].id][j]? = some v → m ⟨b, o + k * 2 + j, none⟩ = some v := hcell
      have hodd := HF.out wr hS.inw xs[k]
      have HN : Hid ((xs.take (k + 1)).any B = B xs[k]) := by
        have := hno.out
        show _ = _
        rw [List.take_succ_eq_append_getElem hlt, List.any_append, this]; simp
      have HM : Hid (xs.any B = true ∨ B xs[k] = false) := by
        cases hb : B xs[k] with
        | false => exact .inr rfl
        | true => exact .inl (List.any_eq_true.2 ⟨_, List.getElem_mem hlt, hb⟩)
      clear hno hcs hcell HR HF
      generalize B xs[k] = T at *
      generalize xs[k] = x at *
      cases T
      all_goals
        go_wp2_with (first 
    | ((with_reducible refine' Wl.out ?_; apply k_loads hS); (· exact .mk))
          | (go_at_fn F; refine hodd.mono ?_; rintro e' w2 ⟨_, m2, rfl, rfl, hk2⟩; replace hS := hS.grow (grownBy_of_below hk2.below); clear hk2))
      · go_roundw
        case rel => exact ⟨k + 1, hlt, by go_num, HN, hS⟩
        case measure => simp [intOf]; omega
      · go_ret
        have := HM.out
        exact ⟨_, m, rfl, ⟨_, rfl, .inl ⟨by omega, by omega, by simpa using this⟩⟩, hS⟩
    · obtain rfl : k = xs.length := by omega
      go_wp2
      go_ret
      have := hno.out
      rw [List.take_length] at this
      exact ⟨_, m, rfl, ⟨_, rfl, .inr ⟨rfl, this⟩⟩, hS⟩
set_option maxRecDepth 100000 in
theorem contains_c (m : Mem) (w : World) (hm : m.In w) (q : Option Addr) (c : Nat) (xs : List Hit) (hr : hitL.list.rd m [.slice q xs.length c] xs) (F : FuncId) (cap : Array Value) (B : Hit → Bool) (eg : Enters Try.prog F) (hF : Tells F cap m B) :
    Calls Try.prog 32 #[.slice q xs.length c, .func (.func F) #[] cap] w (Ret w m fun v _ => v = .bool (xs.any B)) := by
  have hS := St.start hm
  go_enter Try.func32, Try.ntmps32
  go_wp2_with fail
  refine (index_c m w hm q c xs hr F cap B eg hF).mono ?_
  rintro e' w1 ⟨_, m1, rfl, ⟨i, rfl, hi⟩, hk⟩
  replace hS := hS.grow (grownBy_of_below hk.below)
  rcases hi with ⟨h1, h2, h3⟩ | ⟨rfl, h3⟩
  all_goals
    have H3 := Lib.hid h3
    clear h3 hk
    go_wp2
    go_ret
    exact ⟨_, m, rfl, vbool (by rw [H3.out]; try (simp <;> omega)), hS⟩
end Go.Proofs.Ytlkdjmpkapeppaa
/- best.Check. -/
namespace Go.Proofs.Ytlkdjmpkapeppaa
set_option linter.unusedVariables false
set_option linter.unusedSimpArgs false
open Go.RowKit Go.Shelf
theorem mapT : MapT Try.prog 71 2 3 .i64 .i64 := ⟨Try.underlying2, Try.underlying71, Try.underlying3, by kernel_rfl⟩
instance (l : List Hit) (n : Nat) : Decidable (Heap l n) := by
  refine decidable_of_iff (∀ k, k < n → 0 < k → ¬ (l.getD ((k - 1) / 2) hz).lt (l.getD k hz)) ⟨fun h k a b => h k b a, fun h k a b => h k b a⟩
instance (l : List Hit) (k : Int) : Decidable (okH l k) := inferInstanceAs (Decidable (_ ∧ _))
/-- Whether a heap may be; 0: it may. -/
def chkE (l : List Hit) (k : Int) : Int := if okH l k then 0 else 1
/-- Which ids were met. -/
def metF (l : List Hit) (k : Nat) : Int → Option Int := fun z => if z ∈ (l.take k).map Hit.id then some 1 else none
theorem metF_in {l : List Hit} {k : Nat} {z : Int} (h : z ∈ (l.take k).map Hit.id) : (metF l k z).getD 0 = 1 := by unfold metF; rw [if_pos h]; rfl
theorem metF_out {l : List Hit} {k : Nat} {z : Int} (h : z ∉ (l.take k).map Hit.id) : (metF l k z).getD 0 = 0 := by unfold metF; rw [if_neg h]; rfl
theorem metF_succ {l : List Hit} {k : Nat} {x : Hit} (hk : k < l.length) (hx : l[k] = x) : (fun z => if z = x.id then some 1 else metF l k z) = metF l (k + 1) := by
  funext z
  unfold metF
  rw [List.take_succ_eq_append_getElem hk, hx]
  by_cases h : z = x.id
  · simp [h]
  · simp [h]
def PreH (l : List Hit) (k : Nat) : Prop := ((l.take k).map Hit.id).Nodup ∧ ∀ j, 0 < j → j < k → ¬ (l.getD ((j - 1) / 2) hz).lt (l.getD j hz)
theorem PreH.zero (l : List Hit) : PreH l 0 := ⟨by simp, fun j _ h => by omega⟩
theorem PreH.succ {l : List Hit} {k : Nat} (h : PreH l k) (hk : k < l.length) {x : Hit} (hx : l[k] = x) (hn : x.id ∉ (l.take k).map Hit.id) (hh : 0 < k → ¬ (l.getD ((k - 1) / 2) hz).lt x) : PreH l (k + 1) := by
  refine ⟨?_, fun j j0 jk => ?_⟩
  · rw [List.take_succ_eq_append_getElem hk, List.map_append, List.nodup_append, hx]
    refine ⟨h.1, by simp, fun a ha b hb e => ?_⟩
    simp at hb
    subst e
    exact hn (hb ▸ ha)
  · by_cases e : j = k
    · subst e
      have := hh j0
      rwa [show l.getD j hz = x by simp [List.getD, hk, hx]]
    · exact h.2 j j0 (by omega)
theorem PreH.all {l : List Hit} (h : PreH l l.length) : (l.map Hit.id).Nodup ∧ Heap l l.length := by
  have := h.1
  rw [List.take_length] at this
  exact ⟨this, h.2⟩
theorem not_nodup {l : List Hit} {k : Nat} (hk : k < l.length) (h : l[k].id ∈ (l.take k).map Hit.id) : ¬ (l.map Hit.id).Nodup := fun hn => by
  rw [← List.take_append_drop k l, List.map_append, List.nodup_append] at hn
  refine hn.2.2 _ h _ ?_ rfl
  rw [List.drop_eq_getElem_cons hk]
  exact List.mem_map.2 ⟨_, List.mem_cons_self, rfl⟩
theorem any_odd {l : List Hit} : l.any oddB = false ↔ ∀ h ∈ l, fineH h := by
  rw [List.any_eq_false]
  refine forall_congr' fun h => forall_congr' fun _ => ?_
  simp [oddB, fineH]
theorem ent_odd : Enters Try.prog 31 := enters_of Try.func31 (by kernel_rfl) rfl
theorem tells_odd (m : Mem) : Tells 31 #[] m oddB := fun w hm x => odd_c m w hm x
set_option maxRecDepth 100000 in
set_option maxHeartbeats 4000000 in
theorem bcheck_c (m : Mem) (w : World) (hm : m.In w) (v : Value) (xs : List Hit) (hr : hitL.list.rd m [v] xs) (K : Int) (hK : InK .i64 K) :
    Calls Try.prog 13 #[v, .int .i64 K] w (Ret w m fun v _ => v = .int .i64 (chkE xs K)) := by
  have hS := St.start hm
  obtain ⟨q, c, rfl, h1, h2, h3, hrow⟩ := Lay.list_open hr
  have hl : xs.length ≤ 9223372036854775807 := by simp only [maxLen] at h2; omega
  have HR := Lib.hid hrow
  have HL := Lib.hid hr
  clear hr h1 h2 h3 hrow
  have no : ¬ okH xs K → chkE xs K = 1 := fun h => if_neg h
  by_cases a1 : K < 1
  · rw [no fun o => by have := o.1; omega]
    clear HR HL
    go_enter Try.func13, Try.ntmps13
    go_wp2_with fail
    go_ret
    exact ⟨_, m, rfl, rfl, hS⟩
  by_cases a2 : 256 < K
  · rw [no fun o => by have := o.2.1; omega]
    clear HR HL
    go_enter Try.func13, Try.ntmps13
    go_wp2_with fail
    go_ret
    exact ⟨_, m, rfl, rfl, hS⟩
  by_cases a3 : K < (xs.length : Int)
  · rw [no fun o => by have := o.2.2.1; omega]
    clear HR HL
    go_enter Try.func13, Try.ntmps13
    go_wp2_with fail
    go_ret
    exact ⟨_, m, rfl, rfl, hS⟩
  cases hodd : xs.any oddB with
  | true =>
    rw [no fun o => by rw [any_odd.2 o.2.2.2.1] at hodd; cases hodd]
    clear HR
    go_enter Try.func13, Try.ntmps13
    go_wp2_with (first | (go_at_call 32; refine (contains_c m _ hS.inw q c xs HL.out _ _ oddB ent_odd (tells_odd m)).mono ?_; rintro e' w22 ⟨_, m22, rfl, hv22, hk22⟩; replace hS := hS.grow (grownBy_of_below hk22.below); clear hk22; rw [hodd] at hv22; subst hv22))
    go_ret
    exact ⟨_, m, rfl, rfl, hS⟩
  | false =>
    have hfine := any_odd.1 hodd
    have yes : Hid (PreH xs xs.length → chkE xs K = 0) := fun h => by
      obtain ⟨o1, o2⟩ := h.all
      exact if_pos ⟨by omega, by omega, by omega, hfine, o1, o2⟩
    have no2 : Hid (¬ (xs.map Hit.id).Nodup → chkE xs K = 1) := fun h => no fun o => h o.2.2.2.2.1
    have no3 : Hid (¬ Heap xs xs.length → chkE xs K = 1) := fun h => no fun o => h o.2.2.2.2.2
    clear no hfine
    generalize chkE xs K = R at *
    go_enter Try.func13, Try.ntmps13
    go_wp2_with (first
      | (go_at_call 32; refine (contains_c m _ hS.inw q c xs HL.out _ _ oddB ent_odd (tells_odd m)).mono ?_; rintro e' w22 ⟨_, m22, rfl, hv22, hk22⟩; replace hS := hS.grow (grownBy_of_below hk22.below); clear hk22; rw [hodd] at hv22; subst hv22)
      | ((with_reducible refine' Wl.out ?_; apply wl_makeMap hS mapT); clear hS; intro w24 b24 hS))
    clear hodd HL
    go_loopw [27] (fun i wr => ∃ k : Nat, k ≤ xs.length ∧ i = .int .i64 k ∧ Hid (PreH xs k) ∧ St [] w m wr [.obj b24 (MapI Try.prog 2 3 .i64 .i64 k (metF xs k))] m) (fun i _ => xs.length - (intOf i).toNat)
    case atStart => exact ⟨0, Nat.zero_le _, rfl, PreH.zero _, hS⟩
    case round =>
      clear hS
      obtain ⟨k, hk, rfl, hP, hS⟩ := hrel
      by_cases hlt : k < xs.length
      · have hk1 : (k : Int) < xs.length := by omega
        obtain ⟨bq, oq, cs, rfl, hcs, hcell⟩ := HR.out.get k hlt
        obtain ⟨rfl, i1, i2⟩ := hitL_open hcs
        have hx : Hid (xs[k] = xs[k]) := rfl
        have hcx : ∀ j v, [Value.int .i64 xs[k].dist, .int .i64 xs[k].id][j]? = some v → m ⟨bq, oq + k * 2 + j, none⟩ = some v := hcell
        clear hcs hcell
        have s5 : xs[k] = xs.getD k hz := by simp [List.getD, hlt]
        by_cases hin : xs[k].id ∈ (xs.take k).map Hit.id
        · have hmet := Lib.hid (metF_in hin)
          have hR : Hid (R = 1) := no2.out (not_nodup hlt hin)
          clear no2 no3 yes HR hP hin s5
          generalize xs[k] = x at *
          go_wp2_with (first 
    | ((with_reducible refine' Wl.out ?_; apply k_alloc (ty := 30) (dst := some 7) hS); (· exact .mk); clear hS; intro w7 b7 hS)
    | ((with_reducible refine' Wl.out ?_; apply k_load hS); (· exact .mk))
    | ((with_reducible refine' Wl.out ?_; apply k_loads hS); (· exact .mk))
    | go_skip
    | ((with_reducible refine' Wl.out ?_; apply kg_load hS); iterate 2 (· exact .mk))
    | ((with_reducible refine' Wl.out ?_; apply kg_loads hS); iterate 2 (· exact .mk))
    | ((with_reducible refine' Wl.out ?_; refine' wg_case ?_ ?_) <;> (intro hgW; (try (have hg2 := hgW; simp [go_sem] at hg2)); (first | (exfalso; assumption) | ((with_reducible refine' Wl.out ?_; apply k_no hgW)) | ((with_reducible refine' Wl.out ?_; apply kg_load hS ⟨hgW⟩); (· exact .mk)) | ((with_reducible refine' Wl.out ?_; apply kg_loads hS ⟨hgW⟩); (· exact .mk))); clear hgW))
    | ((with_reducible refine' Wl.out ?_; apply k_stores hS); (· exact .mk); clear hS; intro ws hS))
          replace hS := hS.drew
          refine startL (S := Sx _ [(b7, _)]) (by kernel_rfl) (hS.sx0.cons hS (by (repeat constructor))) (fun _ _ _ _ => trivial) (fun hHeld => ?_)
          focus (refine takeN 0 (v := ?_) rfl (by kernel_rfl) ?_ ?_; rotate_left; focus (intro w hSw; clear hSw; go_simp; try with_reducible rfl))
          try simp only [Act.put, nz1, nz2, nz3]
          focus (refine takeN 1 (v := ?_) rfl (by kernel_rfl) ?_ ?_; rotate_left; focus (intro w hSw; clear hSw; go_simp; try with_reducible rfl))
          try simp only [Act.put, nz1, nz2, nz3]
          refine takeN 2 rfl (by kernel_rfl) (yield_load rfl Try.underlying2 rfl rfl (by (first | (apply FindX.box; (· (repeat constructor)); rfl) | exact FindX.mem (by assumption)))) ?_
          try simp only [Act.put, nz1, nz2, nz3]
          refine wpAnyH_ready (rs := [3]) (by kernel_rfl) (by simp) ?_
          refine consL 3 rfl (fun K hK => ?_) AllReadyH.nil
          (with_reducible apply s_lookup hS mapT); (· exact rfl); (· (repeat constructor)); (· exact rfl); (· exact i2); (· exact hmet.out)
          refine hK.out _ _ (by first | exact (hS.sx0.cons hS (by (repeat constructor))) | exact Sx.le (by assumption) (hS.sx0.cons hS (by (repeat constructor)))) (fun hHeld => ?_)
          clear hK K
          try simp only [Act.put, nz1, nz2, nz3]
          focus (refine takeN 4 (v := ?_) rfl (by kernel_rfl) ?_ ?_; rotate_left; focus (intro w hSw; clear hSw; go_simp; try with_reducible rfl))
          try simp only [Act.put, nz1, nz2, nz3]
          focus (refine takeN 5 (v := ?_) rfl (by kernel_rfl) ?_ ?_; rotate_left; focus (intro w hSw; clear hSw; go_simp; try with_reducible rfl))
          try simp only [Act.put, nz1, nz2, nz3]
          first | (focus (refine takeG 6 (v := ?_) rfl (by kernel_rfl) ?_ ?_ ?_; rotate_left; (focus (first | rfl | (go_simp <;> fail))); (focus (intro w hSw; clear hSw; go_simp; try with_reducible rfl)))) | (refine skipG 6 rfl (by kernel_rfl) ?_ ?_; (focus (first | rfl | (go_simp <;> fail))))
          try simp only [Act.put, nz1, nz2, nz3]
          first | (focus (refine takeG 7 (v := ?_) rfl (by kernel_rfl) ?_ ?_ ?_; rotate_left; (focus (first | rfl | (go_simp <;> fail))); (focus (intro w hSw; clear hSw; go_simp; try with_reducible rfl)))) | (refine skipG 7 rfl (by kernel_rfl) ?_ ?_; (focus (first | rfl | (go_simp <;> fail))))
          try simp only [Act.put, nz1, nz2, nz3]
          first | (focus (refine takeG 8 (v := ?_) rfl (by kernel_rfl) ?_ ?_ ?_; rotate_left; (focus (first | rfl | (go_simp <;> fail))); (focus (intro w hSw; clear hSw; go_simp; try with_reducible rfl)))) | (refine skipG 8 rfl (by kernel_rfl) ?_ ?_; (focus (first | rfl | (go_simp <;> fail))))
          try simp only [Act.put, nz1, nz2, nz3]
          first | (focus (refine takeG 9 (v := ?_) rfl (by kernel_rfl) ?_ ?_ ?_; rotate_left; (focus (first | rfl | (go_simp <;> fail))); (focus (intro w hSw; clear hSw; go_simp; try with_reducible rfl)))) | (refine skipG 9 rfl (by kernel_rfl) ?_ ?_; (focus (first | rfl | (go_simp <;> fail))))
          try simp only [Act.put, nz1, nz2, nz3]
          first | (focus (refine takeG 10 (v := ?_) rfl (by kernel_rfl) ?_ ?_ ?_; rotate_left; (focus (first | rfl | (go_simp <;> fail))); (focus (intro w hSw; clear hSw; go_simp; try with_reducible rfl)))) | (refine skipG 10 rfl (by kernel_rfl) ?_ ?_; (focus (first | rfl | (go_simp <;> fail))))
          try simp only [Act.put, nz1, nz2, nz3]
          first | (focus (refine takeG 11 (v := ?_) rfl (by kernel_rfl) ?_ ?_ ?_; rotate_left; (focus (first | rfl | (go_simp <;> fail))); (focus (intro w hSw; clear hSw; go_simp; try with_reducible rfl)))) | (refine skipG 11 rfl (by kernel_rfl) ?_ ?_; (focus (first | rfl | (go_simp <;> fail))))
          try simp only [Act.put, nz1, nz2, nz3]
          first | (focus (refine takeG 12 (v := ?_) rfl (by kernel_rfl) ?_ ?_ ?_; rotate_left; (focus (first | rfl | (go_simp <;> fail))); (focus (intro w hSw; clear hSw; go_simp; try with_reducible rfl)))) | (refine skipG 12 rfl (by kernel_rfl) ?_ ?_; (focus (first | rfl | (go_simp <;> fail))))
          try simp only [Act.put, nz1, nz2, nz3]
          first | (focus (refine takeG 13 (v := ?_) rfl (by kernel_rfl) ?_ ?_ ?_; rotate_left; (focus (first | rfl | (go_simp <;> fail))); (focus (intro w hSw; clear hSw; go_simp; try with_reducible rfl)))) | (refine skipG 13 rfl (by kernel_rfl) ?_ ?_; (focus (first | rfl | (go_simp <;> fail))))
          try simp only [Act.put, nz1, nz2, nz3]
          first | (focus (refine' takeG 15 rfl (by kernel_rfl) ?_ ?_ ?_; rotate_left; (focus (first | rfl | (go_simp <;> fail))); (focus (intro w hSw; refine' yield_loads rfl rowT30 rfl ?_ w hSw; (first | (apply FindsX.box; (· (repeat constructor)); (· (repeat constructor)); done) | (refine FindsX.mem (by assumption) ?_; first | rfl | assumption | (simp; done))))))) | (refine skipG 15 rfl (by kernel_rfl) ?_ ?_; (focus (first | rfl | (go_simp <;> fail))))
          try simp only [Act.put, nz1, nz2, nz3]
          refine wpAnyH_ready (rs := [14]) (by kernel_rfl) (by simp) ?_
          refine consL 14 rfl (fun K hK => ?_) AllReadyH.nil
          rw [if_neg (by exact Bool.false_ne_true)]
          refine hK.out _ _ (by first | exact (hS.sx0.cons hS (by (repeat constructor))) | exact Sx.le (by assumption) (hS.sx0.cons hS (by (repeat constructor)))) (fun hHeld => ?_)
          clear hK K
          try simp only [Act.put, nz1, nz2, nz3]
          refine wpAnyH_ready (rs := [16]) (by kernel_rfl) (by simp) ?_
          refine consL 16 rfl (fun K hK => ?_) AllReadyH.nil
          rw [if_neg (by exact Bool.false_ne_true)]
          refine hK.out _ _ (by first | exact (hS.sx0.cons hS (by (repeat constructor))) | exact Sx.le (by assumption) (hS.sx0.cons hS (by (repeat constructor)))) (fun hHeld => ?_)
          clear hK K
          try simp only [Act.put, nz1, nz2, nz3]
          first | (focus (refine takeG 17 (v := ?_) rfl (by kernel_rfl) ?_ ?_ ?_; rotate_left; (focus (first | rfl | (go_simp <;> fail))); (focus (intro w hSw; clear hSw; go_simp; try with_reducible rfl)))) | (refine skipG 17 rfl (by kernel_rfl) ?_ ?_; (focus (first | rfl | (go_simp <;> fail))))
          try simp only [Act.put, nz1, nz2, nz3]
          focus (refine takeN 18 (v := ?_) rfl (by kernel_rfl) ?_ ?_; rotate_left; focus (intro w hSw; clear hSw; go_simp; try with_reducible rfl))
          try simp only [Act.put, nz1, nz2, nz3]
          refine wpAnyH_done (by kernel_rfl) ?_ _
          refine NoPanic.normal ?_
          all_goals
            go_wp2_with fail
            go_ret
            exact ⟨_, m, rfl, congrArg (Value.int .i64) hR.out.symm, hS.done⟩
        · have hmet := Lib.hid (metF_out hin)
          have hfun := Lib.hid (metF_succ hlt rfl)
          have hsz : k < maxLen := by simp only [maxLen]; omega
          rcases Nat.eq_zero_or_pos k with hk0 | hk0
          · have hN : Hid (PreH xs (k + 1)) := hP.out.succ hlt rfl hin (fun h => by omega)
            subst hk0
            clear no2 no3 yes hP hin s5
            generalize xs[0] = x at *
            go_wp2_with (first 
    | ((with_reducible refine' Wl.out ?_; apply k_alloc (ty := 30) (dst := some 7) hS); (· exact .mk); clear hS; intro w7 b7 hS)
    | ((with_reducible refine' Wl.out ?_; apply k_load hS); (· exact .mk))
    | ((with_reducible refine' Wl.out ?_; apply k_loads hS); (· exact .mk))
    | go_skip
    | ((with_reducible refine' Wl.out ?_; apply kg_load hS); iterate 2 (· exact .mk))
    | ((with_reducible refine' Wl.out ?_; apply kg_loads hS); iterate 2 (· exact .mk))
    | ((with_reducible refine' Wl.out ?_; refine' wg_case ?_ ?_) <;> (intro hgW; (try (have hg2 := hgW; simp [go_sem] at hg2)); (first | (exfalso; assumption) | ((with_reducible refine' Wl.out ?_; apply k_no hgW)) | ((with_reducible refine' Wl.out ?_; apply kg_load hS ⟨hgW⟩); (· exact .mk)) | ((with_reducible refine' Wl.out ?_; apply kg_loads hS ⟨hgW⟩); (· exact .mk))); clear hgW))
    | ((with_reducible refine' Wl.out ?_; apply k_stores hS); (· exact .mk); clear hS; intro ws hS))
            replace hS := hS.drew
            refine startL (S := Sx _ [(b7, _)]) (by kernel_rfl) (hS.sx0.cons hS (by (repeat constructor))) (fun _ _ _ _ => trivial) (fun hHeld => ?_)
            focus (refine takeN 0 (v := ?_) rfl (by kernel_rfl) ?_ ?_; rotate_left; focus (intro w hSw; clear hSw; go_simp; try with_reducible rfl))
            try simp only [Act.put, nz1, nz2, nz3]
            focus (refine takeN 1 (v := ?_) rfl (by kernel_rfl) ?_ ?_; rotate_left; focus (intro w hSw; clear hSw; go_simp; try with_reducible rfl))
            try simp only [Act.put, nz1, nz2, nz3]
            refine takeN 2 rfl (by kernel_rfl) (yield_load rfl Try.underlying2 rfl rfl (by (first | (apply FindX.box; (· (repeat constructor)); rfl) | exact FindX.mem (by assumption)))) ?_
            try simp only [Act.put, nz1, nz2, nz3]
            refine wpAnyH_ready (rs := [3]) (by kernel_rfl) (by simp) ?_
            refine consL 3 rfl (fun K hK => ?_) AllReadyH.nil
            (with_reducible apply s_lookup hS mapT); (· exact rfl); (· (repeat constructor)); (· exact rfl); (· exact i2); (· exact hmet.out)
            refine hK.out _ _ (by first | exact (hS.sx0.cons hS (by (repeat constructor))) | exact Sx.le (by assumption) (hS.sx0.cons hS (by (repeat constructor)))) (fun hHeld => ?_)
            clear hK K
            try simp only [Act.put, nz1, nz2, nz3]
            focus (refine takeN 4 (v := ?_) rfl (by kernel_rfl) ?_ ?_; rotate_left; focus (intro w hSw; clear hSw; go_simp; try with_reducible rfl))
            try simp only [Act.put, nz1, nz2, nz3]
            focus (refine takeN 5 (v := ?_) rfl (by kernel_rfl) ?_ ?_; rotate_left; focus (intro w hSw; clear hSw; go_simp; try with_reducible rfl))
            try simp only [Act.put, nz1, nz2, nz3]
            first | (focus (refine takeG 6 (v := ?_) rfl (by kernel_rfl) ?_ ?_ ?_; rotate_left; (focus (first | rfl | (go_simp <;> fail))); (focus (intro w hSw; clear hSw; go_simp; try with_reducible rfl)))) | (refine skipG 6 rfl (by kernel_rfl) ?_ ?_; (focus (first | rfl | (go_simp <;> fail))))
            try simp only [Act.put, nz1, nz2, nz3]
            first | (focus (refine takeG 7 (v := ?_) rfl (by kernel_rfl) ?_ ?_ ?_; rotate_left; (focus (first | rfl | (go_simp <;> fail))); (focus (intro w hSw; clear hSw; go_simp; try with_reducible rfl)))) | (refine skipG 7 rfl (by kernel_rfl) ?_ ?_; (focus (first | rfl | (go_simp <;> fail))))
            try simp only [Act.put, nz1, nz2, nz3]
            first | (focus (refine takeG 8 (v := ?_) rfl (by kernel_rfl) ?_ ?_ ?_; rotate_left; (focus (first | rfl | (go_simp <;> fail))); (focus (intro w hSw; clear hSw; go_simp; try with_reducible rfl)))) | (refine skipG 8 rfl (by kernel_rfl) ?_ ?_; (focus (first | rfl | (go_simp <;> fail))))
            try simp only [Act.put, nz1, nz2, nz3]
            first | (focus (refine takeG 9 (v := ?_) rfl (by kernel_rfl) ?_ ?_ ?_; rotate_left; (focus (first | rfl | (go_simp <;> fail))); (focus (intro w hSw; clear hSw; go_simp; try with_reducible rfl)))) | (refine skipG 9 rfl (by kernel_rfl) ?_ ?_; (focus (first | rfl | (go_simp <;> fail))))
            try simp only [Act.put, nz1, nz2, nz3]
            first | (focus (refine takeG 10 (v := ?_) rfl (by kernel_rfl) ?_ ?_ ?_; rotate_left; (focus (first | rfl | (go_simp <;> fail))); (focus (intro w hSw; clear hSw; go_simp; try with_reducible rfl)))) | (refine skipG 10 rfl (by kernel_rfl) ?_ ?_; (focus (first | rfl | (go_simp <;> fail))))
            try simp only [Act.put, nz1, nz2, nz3]
            first | (focus (refine takeG 11 (v := ?_) rfl (by kernel_rfl) ?_ ?_ ?_; rotate_left; (focus (first | rfl | (go_simp <;> fail))); (focus (intro w hSw; clear hSw; go_simp; try with_reducible rfl)))) | (refine skipG 11 rfl (by kernel_rfl) ?_ ?_; (focus (first | rfl | (go_simp <;> fail))))
            try simp only [Act.put, nz1, nz2, nz3]
            first | (focus (refine takeG 12 (v := ?_) rfl (by kernel_rfl) ?_ ?_ ?_; rotate_left; (focus (first | rfl | (go_simp <;> fail))); (focus (intro w hSw; clear hSw; go_simp; try with_reducible rfl)))) | (refine skipG 12 rfl (by kernel_rfl) ?_ ?_; (focus (first | rfl | (go_simp <;> fail))))
            try simp only [Act.put, nz1, nz2, nz3]
            first | (focus (refine takeG 13 (v := ?_) rfl (by kernel_rfl) ?_ ?_ ?_; rotate_left; (focus (first | rfl | (go_simp <;> fail))); (focus (intro w hSw; clear hSw; go_simp; try with_reducible rfl)))) | (refine skipG 13 rfl (by kernel_rfl) ?_ ?_; (focus (first | rfl | (go_simp <;> fail))))
            try simp only [Act.put, nz1, nz2, nz3]
            first | (focus (refine' takeG 15 rfl (by kernel_rfl) ?_ ?_ ?_; rotate_left; (focus (first | rfl | (go_simp <;> fail))); (focus (intro w hSw; refine' yield_loads rfl rowT30 rfl ?_ w hSw; (first | (apply FindsX.box; (· (repeat constructor)); (· (repeat constructor)); done) | (refine FindsX.mem (by assumption) ?_; first | rfl | assumption | (simp; done))))))) | (refine skipG 15 rfl (by kernel_rfl) ?_ ?_; (focus (first | rfl | (go_simp <;> fail))))
            try simp only [Act.put, nz1, nz2, nz3]
            refine wpAnyH_ready (rs := [14]) (by kernel_rfl) (by simp) ?_
            refine consL 14 rfl (fun K hK => ?_) AllReadyH.nil
            rw [if_neg (by exact Bool.false_ne_true)]
            refine hK.out _ _ (by first | exact (hS.sx0.cons hS (by (repeat constructor))) | exact Sx.le (by assumption) (hS.sx0.cons hS (by (repeat constructor)))) (fun hHeld => ?_)
            clear hK K
            try simp only [Act.put, nz1, nz2, nz3]
            refine wpAnyH_ready (rs := [16]) (by kernel_rfl) (by simp) ?_
            refine consL 16 rfl (fun K hK => ?_) AllReadyH.nil
            rw [if_neg (by exact Bool.false_ne_true)]
            refine hK.out _ _ (by first | exact (hS.sx0.cons hS (by (repeat constructor))) | exact Sx.le (by assumption) (hS.sx0.cons hS (by (repeat constructor)))) (fun hHeld => ?_)
            clear hK K
            try simp only [Act.put, nz1, nz2, nz3]
            first | (focus (refine takeG 17 (v := ?_) rfl (by kernel_rfl) ?_ ?_ ?_; rotate_left; (focus (first | rfl | (go_simp <;> fail))); (focus (intro w hSw; clear hSw; go_simp; try with_reducible rfl)))) | (refine skipG 17 rfl (by kernel_rfl) ?_ ?_; (focus (first | rfl | (go_simp <;> fail))))
            try simp only [Act.put, nz1, nz2, nz3]
            focus (refine takeN 18 (v := ?_) rfl (by kernel_rfl) ?_ ?_; rotate_left; focus (intro w hSw; clear hSw; go_simp; try with_reducible rfl))
            try simp only [Act.put, nz1, nz2, nz3]
            refine wpAnyH_done (by kernel_rfl) ?_ _
            refine NoPanic.normal ?_
            all_goals
              go_wp2_with (first 
    | ((with_reducible refine' Wl.out ?_; apply k_alloc (ty := 30) (dst := some 7) hS); (· exact .mk); clear hS; intro w7 b7 hS)
    | ((with_reducible refine' Wl.out ?_; apply k_load hS); (· exact .mk))
    | ((with_reducible refine' Wl.out ?_; apply k_loads hS); (· exact .mk))
    | go_skip
    | ((with_reducible refine' Wl.out ?_; apply kg_load hS); iterate 2 (· exact .mk))
    | ((with_reducible refine' Wl.out ?_; apply kg_loads hS); iterate 2 (· exact .mk))
    | ((with_reducible refine' Wl.out ?_; refine' wg_case ?_ ?_) <;> (intro hgW; (try (have hg2 := hgW; simp [go_sem] at hg2)); (first | (exfalso; assumption) | ((with_reducible refine' Wl.out ?_; apply k_no hgW)) | ((with_reducible refine' Wl.out ?_; apply kg_load hS ⟨hgW⟩); (· exact .mk)) | ((with_reducible refine' Wl.out ?_; apply kg_loads hS ⟨hgW⟩); (· exact .mk))); clear hgW))
    | ((with_reducible refine' Wl.out ?_; apply k_stores hS); (· exact .mk); clear hS; intro ws hS)
              | ((with_reducible refine' Wl.out ?_; apply wl_lookup hS mapT); (· exact rfl); (· (repeat constructor)); (· exact rfl); (· exact i2); (· exact hmet.out))
              | ((with_reducible refine' Wl.out ?_; apply wl_mapUpdate (c := 1) hS mapT); (· exact rfl); (· exact rfl); (· exact i2); (· exact rfl); (· exact ⟨by decide, by decide⟩); (· exact hsz); (· exact hfun.out); (· repeat constructor); clear hS; intro w55 hS))
              go_roundw
              case rel => exact ⟨0 + 1, hlt, by go_num, hN, hS.forget (x := .box b7 _) (by (repeat constructor))⟩
              case measure => simp [intOf]; omega
          · obtain ⟨p, rfl⟩ : ∃ p, k = p + 1 := ⟨k - 1, by omega⟩
            have hpl : p / 2 < xs.length := by omega
            obtain ⟨b2, o2, cs, e2, hcs, hcell⟩ := HR.out.get (p / 2) hpl
            cases e2
            obtain ⟨rfl, j1, j2⟩ := hitL_open hcs
            have hcy : ∀ j v, [Value.int .i64 xs[p / 2].dist, .int .i64 xs[p / 2].id][j]? = some v → m ⟨bq, oq + p / 2 * 2 + j, none⟩ = some v := hcell
            have s6 : xs[p / 2] = xs.getD ((p + 1 - 1) / 2) hz := by simp [List.getD, hpl]
            have hp1 : ¬ (xs.length : Int) ≤ (p : Int) / 2 := by omega
            have hp2 : ((p : Int) / 2).toNat = p / 2 := by omega
            have hp3 : (0 : Int) ≤ (p : Int) / 2 := by omega
            have hw1 : IntKind.i64.wrap (p : Int) = p := by simp [IntKind.wrap, IntKind.bits, IntKind.signed]; omega
            have hw3 : IntKind.i64.wrap ((p : Int) / 2) = (p : Int) / 2 := by simp [IntKind.wrap, IntKind.bits, IntKind.signed]; omega
            have hw2 : IntKind.i64.wrap ((p : Int).tdiv 2) = (p : Int) / 2 := by simp [IntKind.wrap, IntKind.bits, IntKind.signed, Int.tdiv_eq_ediv_of_nonneg]; omega
            clear hcs hcell
            by_cases hlt2 : xs[p / 2].lt xs[p + 1]
            · have hR : Hid (R = 1) := no3.out fun hh => hh (p + 1) (by omega) hlt (by rw [← s5, ← s6]; exact hlt2)
              clear no2 no3 yes hP hin s5 s6 HR hfun
              generalize xs[p + 1] = x at *
              generalize xs[p / 2] = y at *
              go_wp2_with (first 
    | ((with_reducible refine' Wl.out ?_; apply k_alloc (ty := 30) (dst := some 7) hS); (· exact .mk); clear hS; intro w7 b7 hS)
    | ((with_reducible refine' Wl.out ?_; apply k_load hS); (· exact .mk))
    | ((with_reducible refine' Wl.out ?_; apply k_loads hS); (· exact .mk))
    | go_skip
    | ((with_reducible refine' Wl.out ?_; apply kg_load hS); iterate 2 (· exact .mk))
    | ((with_reducible refine' Wl.out ?_; apply kg_loads hS); iterate 2 (· exact .mk))
    | ((with_reducible refine' Wl.out ?_; refine' wg_case ?_ ?_) <;> (intro hgW; (try (have hg2 := hgW; simp [go_sem] at hg2)); (first | (exfalso; assumption) | ((with_reducible refine' Wl.out ?_; apply k_no hgW)) | ((with_reducible refine' Wl.out ?_; apply kg_load hS ⟨hgW⟩); (· exact .mk)) | ((with_reducible refine' Wl.out ?_; apply kg_loads hS ⟨hgW⟩); (· exact .mk))); clear hgW))
    | ((with_reducible refine' Wl.out ?_; apply k_stores hS); (· exact .mk); clear hS; intro ws hS))
              replace hS := hS.drew
              refine startL (S := Sx _ [(b7, _)]) (by kernel_rfl) (hS.sx0.cons hS (by (repeat constructor))) (fun _ _ _ _ => trivial) (fun hHeld => ?_)
              focus (refine takeN 0 (v := ?_) rfl (by kernel_rfl) ?_ ?_; rotate_left; focus (intro w hSw; clear hSw; go_simp; try with_reducible rfl))
              try simp only [Act.put, nz1, nz2, nz3]
              focus (refine takeN 1 (v := ?_) rfl (by kernel_rfl) ?_ ?_; rotate_left; focus (intro w hSw; clear hSw; go_simp; try with_reducible rfl))
              try simp only [Act.put, nz1, nz2, nz3]
              refine takeN 2 rfl (by kernel_rfl) (yield_load rfl Try.underlying2 rfl rfl (by (first | (apply FindX.box; (· (repeat constructor)); rfl) | exact FindX.mem (by assumption)))) ?_
              try simp only [Act.put, nz1, nz2, nz3]
              refine wpAnyH_ready (rs := [3]) (by kernel_rfl) (by simp) ?_
              refine consL 3 rfl (fun K hK => ?_) AllReadyH.nil
              (with_reducible apply s_lookup hS mapT); (· exact rfl); (· (repeat constructor)); (· exact rfl); (· exact i2); (· exact hmet.out)
              refine hK.out _ _ (by first | exact (hS.sx0.cons hS (by (repeat constructor))) | exact Sx.le (by assumption) (hS.sx0.cons hS (by (repeat constructor)))) (fun hHeld => ?_)
              clear hK K
              try simp only [Act.put, nz1, nz2, nz3]
              focus (refine takeN 4 (v := ?_) rfl (by kernel_rfl) ?_ ?_; rotate_left; focus (intro w hSw; clear hSw; go_simp; try with_reducible rfl))
              try simp only [Act.put, nz1, nz2, nz3]
              focus (refine takeN 5 (v := ?_) rfl (by kernel_rfl) ?_ ?_; rotate_left; focus (intro w hSw; clear hSw; go_simp; try with_reducible rfl))
              try simp only [Act.put, nz1, nz2, nz3]
              first | (focus (refine takeG 6 (v := ?_) rfl (by kernel_rfl) ?_ ?_ ?_; rotate_left; (focus (first | rfl | (go_simp <;> fail))); (focus (intro w hSw; clear hSw; go_simp; try with_reducible rfl)))) | (refine skipG 6 rfl (by kernel_rfl) ?_ ?_; (focus (first | rfl | (go_simp <;> fail))))
              try simp only [Act.put, nz1, nz2, nz3]
              first | (focus (refine takeG 7 (v := ?_) rfl (by kernel_rfl) ?_ ?_ ?_; rotate_left; (focus (first | rfl | (go_simp <;> fail))); (focus (intro w hSw; clear hSw; go_simp; try with_reducible rfl)))) | (refine skipG 7 rfl (by kernel_rfl) ?_ ?_; (focus (first | rfl | (go_simp <;> fail))))
              try simp only [Act.put, nz1, nz2, nz3]
              first | (focus (refine takeG 8 (v := ?_) rfl (by kernel_rfl) ?_ ?_ ?_; rotate_left; (focus (first | rfl | (go_simp <;> fail))); (focus (intro w hSw; clear hSw; go_simp; try with_reducible rfl)))) | (refine skipG 8 rfl (by kernel_rfl) ?_ ?_; (focus (first | rfl | (go_simp <;> fail))))
              try simp only [Act.put, nz1, nz2, nz3]
              first | (focus (refine takeG 9 (v := ?_) rfl (by kernel_rfl) ?_ ?_ ?_; rotate_left; (focus (first | rfl | (go_simp <;> fail))); (focus (intro w hSw; clear hSw; go_simp; try with_reducible rfl)))) | (refine skipG 9 rfl (by kernel_rfl) ?_ ?_; (focus (first | rfl | (go_simp <;> fail))))
              try simp only [Act.put, nz1, nz2, nz3]
              first | (focus (refine takeG 10 (v := ?_) rfl (by kernel_rfl) ?_ ?_ ?_; rotate_left; (focus (first | rfl | (go_simp <;> fail))); (focus (intro w hSw; clear hSw; go_simp; try with_reducible rfl)))) | (refine skipG 10 rfl (by kernel_rfl) ?_ ?_; (focus (first | rfl | (go_simp <;> fail))))
              try simp only [Act.put, nz1, nz2, nz3]
              first | (focus (refine takeG 11 (v := ?_) rfl (by kernel_rfl) ?_ ?_ ?_; rotate_left; (focus (first | rfl | (go_simp <;> fail))); (focus (intro w hSw; clear hSw; go_simp; try with_reducible rfl)))) | (refine skipG 11 rfl (by kernel_rfl) ?_ ?_; (focus (first | rfl | (go_simp <;> fail))))
              try simp only [Act.put, nz1, nz2, nz3]
              first | (focus (refine takeG 12 (v := ?_) rfl (by kernel_rfl) ?_ ?_ ?_; rotate_left; (focus (first | rfl | (go_simp <;> fail))); (focus (intro w hSw; clear hSw; go_simp; try with_reducible rfl)))) | (refine skipG 12 rfl (by kernel_rfl) ?_ ?_; (focus (first | rfl | (go_simp <;> fail))))
              try simp only [Act.put, nz1, nz2, nz3]
              first | (focus (refine takeG 13 (v := ?_) rfl (by kernel_rfl) ?_ ?_ ?_; rotate_left; (focus (first | rfl | (go_simp <;> fail))); (focus (intro w hSw; clear hSw; go_simp; try with_reducible rfl)))) | (refine skipG 13 rfl (by kernel_rfl) ?_ ?_; (focus (first | rfl | (go_simp <;> fail))))
              try simp only [Act.put, nz1, nz2, nz3]
              first | (focus (refine' takeG 14 rfl (by kernel_rfl) ?_ ?_ ?_; rotate_left; (focus (first | rfl | (go_simp <;> fail))); (focus (intro w hSw; refine' yield_loads rfl rowT30 rfl ?_ w hSw; (first | (apply FindsX.box; (· (repeat constructor)); (· (repeat constructor)); done) | (refine FindsX.mem (by assumption) ?_; first | rfl | assumption | (simp; done))))))) | (refine skipG 14 rfl (by kernel_rfl) ?_ ?_; (focus (first | rfl | (go_simp <;> fail))))
              try simp only [Act.put, nz1, nz2, nz3]
              first | (focus (refine' takeG 15 rfl (by kernel_rfl) ?_ ?_ ?_; rotate_left; (focus (first | rfl | (go_simp <;> fail))); (focus (intro w hSw; refine' yield_loads rfl rowT30 rfl ?_ w hSw; (first | (apply FindsX.box; (· (repeat constructor)); (· (repeat constructor)); done) | (refine FindsX.mem (by assumption) ?_; first | rfl | assumption | (simp; done))))))) | (refine skipG 15 rfl (by kernel_rfl) ?_ ?_; (focus (first | rfl | (go_simp <;> fail))))
              try simp only [Act.put, nz1, nz2, nz3]
              refine wpAnyH_ready (rs := [16]) (by kernel_rfl) (by simp) ?_
              refine consL 16 rfl (fun K hK => ?_) AllReadyH.nil
              rw [if_pos (by rfl)]; go_simp; refine (less_c _ _ hS.inw y x).mono ?_; rintro e' w48 ⟨_, m48, rfl, hv48, hk48⟩; replace hS := hS.grow (grownBy_of_below hk48.below); clear hk48; rw [decide_eq_true hlt2] at hv48; subst hv48; go_wp2_with fail
              refine hK.out _ _ (by first | exact (hS.sx0.cons hS (by (repeat constructor))) | exact Sx.le (by assumption) (hS.sx0.cons hS (by (repeat constructor)))) (fun hHeld => ?_)
              clear hK K
              try simp only [Act.put, nz1, nz2, nz3]
              first | (focus (refine takeG 17 (v := ?_) rfl (by kernel_rfl) ?_ ?_ ?_; rotate_left; (focus (first | rfl | (go_simp <;> fail))); (focus (intro w hSw; clear hSw; go_simp; try with_reducible rfl)))) | (refine skipG 17 rfl (by kernel_rfl) ?_ ?_; (focus (first | rfl | (go_simp <;> fail))))
              try simp only [Act.put, nz1, nz2, nz3]
              focus (refine takeN 18 (v := ?_) rfl (by kernel_rfl) ?_ ?_; rotate_left; focus (intro w hSw; clear hSw; go_simp; try with_reducible rfl))
              try simp only [Act.put, nz1, nz2, nz3]
              refine wpAnyH_done (by kernel_rfl) ?_ _
              refine NoPanic.normal ?_
              all_goals
                go_wp2_with fail
                go_ret
                exact ⟨_, m, rfl, congrArg (Value.int .i64) hR.out.symm, hS.done⟩
            · have hN : Hid (PreH xs (p + 1 + 1)) := hP.out.succ hlt rfl hin (fun _ => by rw [← s6]; exact hlt2)
              clear no2 no3 yes hP hin s5 s6
              generalize xs[p + 1] = x at *
              generalize xs[p / 2] = y at *
              go_wp2_with (first 
    | ((with_reducible refine' Wl.out ?_; apply k_alloc (ty := 30) (dst := some 7) hS); (· exact .mk); clear hS; intro w7 b7 hS)
    | ((with_reducible refine' Wl.out ?_; apply k_load hS); (· exact .mk))
    | ((with_reducible refine' Wl.out ?_; apply k_loads hS); (· exact .mk))
    | go_skip
    | ((with_reducible refine' Wl.out ?_; apply kg_load hS); iterate 2 (· exact .mk))
    | ((with_reducible refine' Wl.out ?_; apply kg_loads hS); iterate 2 (· exact .mk))
    | ((with_reducible refine' Wl.out ?_; refine' wg_case ?_ ?_) <;> (intro hgW; (try (have hg2 := hgW; simp [go_sem] at hg2)); (first | (exfalso; assumption) | ((with_reducible refine' Wl.out ?_; apply k_no hgW)) | ((with_reducible refine' Wl.out ?_; apply kg_load hS ⟨hgW⟩); (· exact .mk)) | ((with_reducible refine' Wl.out ?_; apply kg_loads hS ⟨hgW⟩); (· exact .mk))); clear hgW))
    | ((with_reducible refine' Wl.out ?_; apply k_stores hS); (· exact .mk); clear hS; intro ws hS))
              replace hS := hS.drew
              refine startL (S := Sx _ [(b7, _)]) (by kernel_rfl) (hS.sx0.cons hS (by (repeat constructor))) (fun _ _ _ _ => trivial) (fun hHeld => ?_)
              focus (refine takeN 0 (v := ?_) rfl (by kernel_rfl) ?_ ?_; rotate_left; focus (intro w hSw; clear hSw; go_simp; try with_reducible rfl))
              try simp only [Act.put, nz1, nz2, nz3]
              focus (refine takeN 1 (v := ?_) rfl (by kernel_rfl) ?_ ?_; rotate_left; focus (intro w hSw; clear hSw; go_simp; try with_reducible rfl))
              try simp only [Act.put, nz1, nz2, nz3]
              refine takeN 2 rfl (by kernel_rfl) (yield_load rfl Try.underlying2 rfl rfl (by (first | (apply FindX.box; (· (repeat constructor)); rfl) | exact FindX.mem (by assumption)))) ?_
              try simp only [Act.put, nz1, nz2, nz3]
              refine wpAnyH_ready (rs := [3]) (by kernel_rfl) (by simp) ?_
              refine consL 3 rfl (fun K hK => ?_) AllReadyH.nil
              (with_reducible apply s_lookup hS mapT); (· exact rfl); (· (repeat constructor)); (· exact rfl); (· exact i2); (· exact hmet.out)
              refine hK.out _ _ (by first | exact (hS.sx0.cons hS (by (repeat constructor))) | exact Sx.le (by assumption) (hS.sx0.cons hS (by (repeat constructor)))) (fun hHeld => ?_)
              clear hK K
              try simp only [Act.put, nz1, nz2, nz3]
              focus (refine takeN 4 (v := ?_) rfl (by kernel_rfl) ?_ ?_; rotate_left; focus (intro w hSw; clear hSw; go_simp; try with_reducible rfl))
              try simp only [Act.put, nz1, nz2, nz3]
              focus (refine takeN 5 (v := ?_) rfl (by kernel_rfl) ?_ ?_; rotate_left; focus (intro w hSw; clear hSw; go_simp; try with_reducible rfl))
              try simp only [Act.put, nz1, nz2, nz3]
              first | (focus (refine takeG 6 (v := ?_) rfl (by kernel_rfl) ?_ ?_ ?_; rotate_left; (focus (first | rfl | (go_simp <;> fail))); (focus (intro w hSw; clear hSw; go_simp; try with_reducible rfl)))) | (refine skipG 6 rfl (by kernel_rfl) ?_ ?_; (focus (first | rfl | (go_simp <;> fail))))
              try simp only [Act.put, nz1, nz2, nz3]
              first | (focus (refine takeG 7 (v := ?_) rfl (by kernel_rfl) ?_ ?_ ?_; rotate_left; (focus (first | rfl | (go_simp <;> fail))); (focus (intro w hSw; clear hSw; go_simp; try with_reducible rfl)))) | (refine skipG 7 rfl (by kernel_rfl) ?_ ?_; (focus (first | rfl | (go_simp <;> fail))))
              try simp only [Act.put, nz1, nz2, nz3]
              first | (focus (refine takeG 8 (v := ?_) rfl (by kernel_rfl) ?_ ?_ ?_; rotate_left; (focus (first | rfl | (go_simp <;> fail))); (focus (intro w hSw; clear hSw; go_simp; try with_reducible rfl)))) | (refine skipG 8 rfl (by kernel_rfl) ?_ ?_; (focus (first | rfl | (go_simp <;> fail))))
              try simp only [Act.put, nz1, nz2, nz3]
              first | (focus (refine takeG 9 (v := ?_) rfl (by kernel_rfl) ?_ ?_ ?_; rotate_left; (focus (first | rfl | (go_simp <;> fail))); (focus (intro w hSw; clear hSw; go_simp; try with_reducible rfl)))) | (refine skipG 9 rfl (by kernel_rfl) ?_ ?_; (focus (first | rfl | (go_simp <;> fail))))
              try simp only [Act.put, nz1, nz2, nz3]
              first | (focus (refine takeG 10 (v := ?_) rfl (by kernel_rfl) ?_ ?_ ?_; rotate_left; (focus (first | rfl | (go_simp <;> fail))); (focus (intro w hSw; clear hSw; go_simp; try with_reducible rfl)))) | (refine skipG 10 rfl (by kernel_rfl) ?_ ?_; (focus (first | rfl | (go_simp <;> fail))))
              try simp only [Act.put, nz1, nz2, nz3]
              first | (focus (refine takeG 11 (v := ?_) rfl (by kernel_rfl) ?_ ?_ ?_; rotate_left; (focus (first | rfl | (go_simp <;> fail))); (focus (intro w hSw; clear hSw; go_simp; try with_reducible rfl)))) | (refine skipG 11 rfl (by kernel_rfl) ?_ ?_; (focus (first | rfl | (go_simp <;> fail))))
              try simp only [Act.put, nz1, nz2, nz3]
              first | (focus (refine takeG 12 (v := ?_) rfl (by kernel_rfl) ?_ ?_ ?_; rotate_left; (focus (first | rfl | (go_simp <;> fail))); (focus (intro w hSw; clear hSw; go_simp; try with_reducible rfl)))) | (refine skipG 12 rfl (by kernel_rfl) ?_ ?_; (focus (first | rfl | (go_simp <;> fail))))
              try simp only [Act.put, nz1, nz2, nz3]
              first | (focus (refine takeG 13 (v := ?_) rfl (by kernel_rfl) ?_ ?_ ?_; rotate_left; (focus (first | rfl | (go_simp <;> fail))); (focus (intro w hSw; clear hSw; go_simp; try with_reducible rfl)))) | (refine skipG 13 rfl (by kernel_rfl) ?_ ?_; (focus (first | rfl | (go_simp <;> fail))))
              try simp only [Act.put, nz1, nz2, nz3]
              first | (focus (refine' takeG 14 rfl (by kernel_rfl) ?_ ?_ ?_; rotate_left; (focus (first | rfl | (go_simp <;> fail))); (focus (intro w hSw; refine' yield_loads rfl rowT30 rfl ?_ w hSw; (first | (apply FindsX.box; (· (repeat constructor)); (· (repeat constructor)); done) | (refine FindsX.mem (by assumption) ?_; first | rfl | assumption | (simp; done))))))) | (refine skipG 14 rfl (by kernel_rfl) ?_ ?_; (focus (first | rfl | (go_simp <;> fail))))
              try simp only [Act.put, nz1, nz2, nz3]
              first | (focus (refine' takeG 15 rfl (by kernel_rfl) ?_ ?_ ?_; rotate_left; (focus (first | rfl | (go_simp <;> fail))); (focus (intro w hSw; refine' yield_loads rfl rowT30 rfl ?_ w hSw; (first | (apply FindsX.box; (· (repeat constructor)); (· (repeat constructor)); done) | (refine FindsX.mem (by assumption) ?_; first | rfl | assumption | (simp; done))))))) | (refine skipG 15 rfl (by kernel_rfl) ?_ ?_; (focus (first | rfl | (go_simp <;> fail))))
              try simp only [Act.put, nz1, nz2, nz3]
              refine wpAnyH_ready (rs := [16]) (by kernel_rfl) (by simp) ?_
              refine consL 16 rfl (fun K hK => ?_) AllReadyH.nil
              rw [if_pos (by rfl)]; go_simp; refine (less_c _ _ hS.inw y x).mono ?_; rintro e' w48 ⟨_, m48, rfl, hv48, hk48⟩; replace hS := hS.grow (grownBy_of_below hk48.below); clear hk48; rw [decide_eq_false hlt2] at hv48; subst hv48; go_wp2_with fail
              refine hK.out _ _ (by first | exact (hS.sx0.cons hS (by (repeat constructor))) | exact Sx.le (by assumption) (hS.sx0.cons hS (by (repeat constructor)))) (fun hHeld => ?_)
              clear hK K
              try simp only [Act.put, nz1, nz2, nz3]
              first | (focus (refine takeG 17 (v := ?_) rfl (by kernel_rfl) ?_ ?_ ?_; rotate_left; (focus (first | rfl | (go_simp <;> fail))); (focus (intro w hSw; clear hSw; go_simp; try with_reducible rfl)))) | (refine skipG 17 rfl (by kernel_rfl) ?_ ?_; (focus (first | rfl | (go_simp <;> fail))))
              try simp only [Act.put, nz1, nz2, nz3]
              focus (refine takeN 18 (v := ?_) rfl (by kernel_rfl) ?_ ?_; rotate_left; focus (intro w hSw; clear hSw; go_simp; try with_reducible rfl))
              try simp only [Act.put, nz1, nz2, nz3]
              refine wpAnyH_done (by kernel_rfl) ?_ _
              refine NoPanic.normal ?_
              all_goals
                go_wp2_with (first 
    | ((with_reducible refine' Wl.out ?_; apply k_alloc (ty := 30) (dst := some 7) hS); (· exact .mk); clear hS; intro w7 b7 hS)
    | ((with_reducible refine' Wl.out ?_; apply k_load hS); (· exact .mk))
    | ((with_reducible refine' Wl.out ?_; apply k_loads hS); (· exact .mk))
    | go_skip
    | ((with_reducible refine' Wl.out ?_; apply kg_load hS); iterate 2 (· exact .mk))
    | ((with_reducible refine' Wl.out ?_; apply kg_loads hS); iterate 2 (· exact .mk))
    | ((with_reducible refine' Wl.out ?_; refine' wg_case ?_ ?_) <;> (intro hgW; (try (have hg2 := hgW; simp [go_sem] at hg2)); (first | (exfalso; assumption) | ((with_reducible refine' Wl.out ?_; apply k_no hgW)) | ((with_reducible refine' Wl.out ?_; apply kg_load hS ⟨hgW⟩); (· exact .mk)) | ((with_reducible refine' Wl.out ?_; apply kg_loads hS ⟨hgW⟩); (· exact .mk))); clear hgW))
    | ((with_reducible refine' Wl.out ?_; apply k_stores hS); (· exact .mk); clear hS; intro ws hS)
                | ((with_reducible refine' Wl.out ?_; apply wl_lookup hS mapT); (· exact rfl); (· (repeat constructor)); (· exact rfl); (· exact i2); (· exact hmet.out))
                | ((with_reducible refine' Wl.out ?_; apply wl_mapUpdate (c := 1) hS mapT); (· exact rfl); (· exact rfl); (· exact i2); (· exact rfl); (· exact ⟨by decide, by decide⟩); (· exact hsz); (· exact hfun.out); (· repeat constructor); clear hS; intro w55 hS))
                go_roundw
                case rel => exact ⟨p + 1 + 1, hlt, by go_num, hN, hS.forget (x := .box b7 _) (by (repeat constructor))⟩
                case measure => simp [intOf]; omega
      · obtain rfl : k = xs.length := by omega
        have hR := Lib.hid (yes.out hP.out)
        clear yes
        go_wp2
        go_ret
        exact ⟨_, m, rfl, congrArg (Value.int .i64) hR.out.symm, hS.done⟩
end Go.Proofs.Ytlkdjmpkapeppaa
/- slots.directory. -/
namespace Go.Proofs.Ytlkdjmpkapeppaa
set_option linter.unusedVariables false
set_option linter.unusedSimpArgs false
open Go.RowKit Go.Shelf
def goodAt (s : Sl) (i : Nat) : Prop := (s.ids.getD i 0 = -1 ∧ s.vecs.getD i [] = []) ∨ (0 ≤ s.ids.getD i 0 ∧ s.ids.getD i 0 ≤ 2147483647 ∧ fitsV s.dim (s.vecs.getD i []) ∧ ∀ j, j < i → s.ids.getD j 0 ≠ s.ids.getD i 0)
/-- Whether slots may be. -/
def dirOK (s : Sl) : Prop := (1 ≤ s.dim ∧ s.dim ≤ 64) ∧ (1 ≤ s.ids.length ∧ s.ids.length ≤ 256) ∧ s.vecs.length = s.ids.length ∧ ∀ i, i < s.ids.length → goodAt s i
/-- Where each id is, among the first ones. -/
def dirF (s : Sl) : Nat → Int → Option Int
  | 0 => fun _ => none
  | k + 1 => if s.ids.getD k 0 = -1 then dirF s k else fun z => if z = s.ids.getD k 0 then some (k : Int) else dirF s k z
theorem dirF_neg (s : Sl) : ∀ k, dirF s k (-1) = none
  | 0 => rfl
  | k + 1 => by
    unfold dirF
    split
    · exact dirF_neg s k
    · rename_i h
      show (if -1 = s.ids.getD k 0 then _ else _) = none
      rw [if_neg (fun e => h e.symm)]; exact dirF_neg s k
theorem dirF_some (s : Sl) {z : Int} (hz : z ≠ -1) : ∀ k, (dirF s k z).isSome = true ↔ ∃ j, j < k ∧ s.ids.getD j 0 = z
  | 0 => by simp [dirF]
  | k + 1 => by
    have ih := dirF_some s hz k
    unfold dirF
    split
    · rename_i h
      rw [ih]
      constructor
      · rintro ⟨j, h1, h2⟩; exact ⟨j, by omega, h2⟩
      · rintro ⟨j, h1, h2⟩
        by_cases e : j = k
        · subst e; exact absurd (h.symm.trans h2).symm hz
        · exact ⟨j, by omega, h2⟩
    · rename_i h
      show (if z = s.ids.getD k 0 then some (k : Int) else dirF s k z).isSome = true ↔ _
      split
      · rename_i e
        exact ⟨fun _ => ⟨k, by omega, e.symm⟩, fun _ => rfl⟩
      · rename_i e
        rw [ih]
        constructor
        · rintro ⟨j, h1, h2⟩; exact ⟨j, by omega, h2⟩
        · rintro ⟨j, h1, h2⟩
          by_cases e' : j = k
          · subst e'; exact absurd h2.symm e
          · exact ⟨j, by omega, h2⟩
theorem dirF_skip {s : Sl} {k : Nat} (h : s.ids.getD k 0 = -1) : dirF s (k + 1) = dirF s k := if_pos h
theorem dirF_put {s : Sl} {k : Nat} (h : s.ids.getD k 0 ≠ -1) : (fun z => if z = s.ids.getD k 0 then some (k : Int) else dirF s k z) = dirF s (k + 1) := (if_neg h).symm
/-- What a slot is: empty; of somebody who was met; not an id; whose vector does not fit; good. -/
theorem slot_is (s : Sl) (k : Nat) :
    (s.ids.getD k 0 = -1 ∧ s.vecs.getD k [] = [] ∧ goodAt s k) ∨
    (¬ (s.ids.getD k 0 = -1 ∧ s.vecs.getD k [] = []) ∧ (dirF s k (s.ids.getD k 0)).isSome = true ∧ ¬ goodAt s k) ∨
    (¬ (s.ids.getD k 0 = -1 ∧ s.vecs.getD k [] = []) ∧ (dirF s k (s.ids.getD k 0)).isSome = false ∧ ¬ (0 ≤ s.ids.getD k 0 ∧ s.ids.getD k 0 ≤ 2147483647) ∧ ¬ goodAt s k) ∨
    (s.ids.getD k 0 ≠ -1 ∧ (dirF s k (s.ids.getD k 0)).isSome = false ∧ (0 ≤ s.ids.getD k 0 ∧ s.ids.getD k 0 ≤ 2147483647) ∧ ¬ fitsV s.dim (s.vecs.getD k []) ∧ ¬ goodAt s k) ∨
    (s.ids.getD k 0 ≠ -1 ∧ (dirF s k (s.ids.getD k 0)).isSome = false ∧ (0 ≤ s.ids.getD k 0 ∧ s.ids.getD k 0 ≤ 2147483647) ∧ fitsV s.dim (s.vecs.getD k []) ∧ goodAt s k) := by
  have hS := dirF_some s (z := s.ids.getD k 0)
  have hNeg := dirF_neg s k
  unfold goodAt
  generalize s.vecs.getD k [] = v at *
  generalize s.ids.getD k 0 = x at *
  by_cases h0 : x = -1 ∧ v = []
  · exact .inl ⟨h0.1, h0.2, .inl h0⟩
  by_cases h1 : (dirF s k x).isSome = true
  · have hx : x ≠ -1 := fun e => by rw [e, hNeg] at h1; cases h1
    refine .inr (.inl ⟨h0, h1, ?_⟩)
    rintro (h | ⟨_, _, _, h⟩)
    · exact h0 h
    · obtain ⟨j, hj, e⟩ := (hS hx k).1 h1
      exact h j hj e
  have h1' : (dirF s k x).isSome = false := by cases hh : (dirF s k x).isSome <;> simp_all
  by_cases h2 : 0 ≤ x ∧ x ≤ 2147483647
  · have hx : x ≠ -1 := by omega
    by_cases h3 : fitsV s.dim v
    · exact .inr (.inr (.inr (.inr ⟨hx, h1', h2, h3, .inr ⟨h2.1, h2.2, h3, fun j hj e => h1 ((hS hx k).2 ⟨j, hj, e⟩)⟩⟩)))
    · refine .inr (.inr (.inr (.inl ⟨hx, h1', h2, h3, ?_⟩)))
      rintro (h | ⟨_, _, h, _⟩)
      · exact h0 h
      · exact h3 h
  · refine .inr (.inr (.inl ⟨h0, h1', h2, ?_⟩))
    rintro (h | ⟨a, b, _, _⟩)
    · exact h0 h
    · exact h2 ⟨a, b⟩
/-- What directory hands back. -/
def DirR (w : World) (m : Mem) (s : Sl) (e : Ending) (w' : World) : Prop :=
  (dirOK s ∧ ∃ b n, n ≤ 256 ∧ e = .returned (.tuple #[.map (some b), .bool true]) ∧ St [] w m w' [.obj b (MapI Try.prog 2 3 .i64 .i64 n (dirF s s.ids.length))] m) ∨ (¬ dirOK s ∧ e = .returned (.tuple #[.map none, .bool false]) ∧ St [] w m w' [] m)
section
open Go.Maps (Keyed)
variable {P : Program} {X : List Nat} {w0 w : World} {m0 m : Mem} {es : List Ent} {o : Oper} {a : Act} {K : Act → World → Prop} {Q : Exit → Act → World → Prop} {ops : Array Oper}
variable {rest : List Oper} {dst : Option Tmp} {rt : TypeId} {pos : String} {af : Array Edge} {E : Prop} {t k e : TypeId} {q r : IntKind} {b n : Nat} {f f' : Int → Option Int}
theorem op_makeMapN {x : Operand} {y : Int} (hS : St X w0 m0 w es m) (ho : o.op = .makeMap t (some x)) (hT : MapT P t k e q r) (hx : a.eval x = .int .i64 y) (h : ∀ w' b, St X w0 m0 w' (.obj b (MapI P k e q r 0 (fun _ => none)) :: es) m → K (a.put o.dst (.map (some b))) w') : o.wp P a w K Q := by
  have hok : (Ent.obj w.heap.size (MapI P k e q r 0 (fun _ => none))).ok (w.alloc (.map #[] 0)) := mapI_of (World.ownsMap_made (H := Unit) w P k (plainElem P e)) fun x _ => ⟨rfl, fun z => rfl⟩
  have hrun : (Instr.makeMap t (some (.int .i64 y))).run P w = .ok (.map (some w.heap.size)) (w.alloc (.map #[] 0)) := by
    simp [Instr.makeMap, underlying, hT.ht, asInt]
    rfl
  unfold Oper.wp execOp
  simp only [ho, Sem.run_bind, Sem.run_pure, Result.andThen_ok, Option.map_some, hx, hrun]
  exact h _ _ (hS.add _ (World.grownBy_alloc w _ none) hok (fun b hb => by cases hb; exact Nat.le_refl _))
theorem wl_makeMapN {x : Operand} {y : Int} (hS : St X w0 m0 w es m) (hT : MapT P t k e q r) (hx : a.eval x = .int .i64 y) (h : ∀ w' b, St X w0 m0 w' (.obj b (MapI P k e q r 0 (fun _ => none)) :: es) m → wpList P ops Q rest (a.put dst (.map (some b))) w') : Wl P ops Q (⟨dst, .makeMap t (some x), rt, pos, af, none⟩ :: rest) a w :=
  ⟨wpList_plain rfl fun K hK => op_makeMapN hS rfl hT hx fun w' b hw => hK _ _ (h w' b hw)⟩
theorem wl_lookup2 (hS : St X w0 m0 w es m) (hT : MapT P t k e q r) {mp x : Operand} {y v : Int} {B : Bool} (hm : a.eval mp = .map (some b)) (hM : Ent.obj b (MapI P k e q r n f) ∈ es) (hx : a.eval x = .int q y) (hy : InK q y) (hv : (f y).getD 0 = v ∧ (f y).isSome = B) (h : wpList P ops Q rest (a.put dst (.tuple #[.int r v, .bool B])) w) :
    Wl P ops Q (⟨dst, .lookup t mp x true, rt, pos, af, none⟩ :: rest) a w :=
  ⟨wpList_plain rfl fun K hK => op_lookup2 hS mp x rfl hT.hk hT.ht hT.he hT.hz hm hM hx (inK_wf hy) (by rw [hv.1, hv.2]; exact hK _ _ h)⟩
end
end Go.Proofs.Ytlkdjmpkapeppaa
/- best.Add, Worst. -/
namespace Go.Proofs.Ytlkdjmpkapeppaa
set_option linter.unusedVariables false
set_option linter.unusedSimpArgs false
open Go.RowKit Go.Shelf
set_option maxRecDepth 100000 in
set_option maxHeartbeats 2000000 in
theorem hclone_c (m : Mem) (w : World) (hm : m.In w) (v : Value) {xs} (h : hitL.list.rd m [v] xs) : Calls Try.prog 34 #[v] w (RetRow hitL 30 w m xs) := by
  have qn : ∀ (w : World) (a : Option Addr) (n c n' c' : Nat), (binOp .eql 24 (.slice a n c) (.slice none n' c')).run Try.prog w = .ok (.bool a.isNone) w := fun w a n c n' c' => Lib.run_eql_slice_nil w _ _ a n c n' c' Try.underlying24
  have HH := Lib.hid h
  obtain ⟨p, c, rfl, h1, h2, h3, h4⟩ := Lay.list_open h
  have hS := St.start hm
  cases p with
  | none =>
    have : xs = [] := by
      rcases Nat.eq_zero_or_pos xs.length with h0 | h0
      · exact List.eq_nil_of_length_eq_zero h0
      · obtain ⟨b, o, e, _⟩ := h4 h0; cases e
    subst this
    clear h h1 h2 h3 h4 HH
    go_enter Try.func34, Try.ntmps34
    go_wp2
    go_ret
    exact ⟨none, 0, [], rfl, CellsOf.nil _ _, hS.nilRow _ _⟩
  | some a =>
    have HB := Lib.hid h3
    clear h h1 h2 h3 h4
    go_enter Try.func34, Try.ntmps34
    go_wp2_with (first
      | ((with_reducible refine' Wl.out ?_; apply wl_lit0 el_hit hS); clear hS; intro w5 b5 hS)
      | ((with_reducible refine' Wl.out ?_; apply wl_append hitL el_hit hS (by decide)); (· exact rfl); (· (repeat constructor)); (· exact rfl); (· exact HH.out); (· rw [Nat.zero_add]; exact HB.out); clear hS; intro w7 q7 c7 news7 hc7 hS; simp only [Nat.zero_add, List.nil_append] at hS))
    go_ret
    exact ⟨q7, c7, news7, by simp, hc7, hS⟩
theorem cellsOf_hits {m : Mem} : ∀ {cells : List Value} {xs : List Hit}, CellsOf hitL m cells xs → cells = cellsH xs ∧ ∀ x ∈ xs, InK .i64 x.dist ∧ InK .i64 x.id := by
  intro cells xs h
  obtain ⟨css, rfl, h2, h3⟩ := h
  induction xs generalizing css with
  | nil => 
    have : css = [] := List.eq_nil_of_length_eq_zero (by simpa using h2)
    subst this
    exact ⟨rfl, by simp⟩
  | cons x xs ih =>
    cases css with
    | nil => simp at h2
    | cons cs css =>
      obtain ⟨i1, i2⟩ := ih css (by simpa using h2) (fun i cs' x' a b => h3 (i + 1) cs' x' (by simpa using a) (by simpa using b))
      obtain ⟨e, k1, k2⟩ := hitL_open (h3 0 cs x rfl rfl)
      refine ⟨?_, fun y hy => ?_⟩
      · rw [List.flatten_cons, i1, e]; rfl
      · rcases List.mem_cons.1 hy with rfl | hy
        · exact ⟨k1, k2⟩
        · exact i2 y hy
theorem hits_cellsOf (m : Mem) : ∀ {xs : List Hit}, (∀ x ∈ xs, InK .i64 x.dist ∧ InK .i64 x.id) → CellsOf hitL m (cellsH xs) xs
  | [], _ => CellsOf.nil _ _
  | x :: xs, h => CellsOf.append (x1 := [x]) (CellsOf.one (hitL_mk (h x (by simp)).1 (h x (by simp)).2)) (hits_cellsOf m fun y hy => h y (by simp [hy]))
def HitsIn (xs : List Hit) : Prop := ∀ x ∈ xs, InK .i64 x.dist ∧ InK .i64 x.id
theorem hits_in {m : Mem} {v : Value} {xs : List Hit} (h : hitL.list.rd m [v] xs) : HitsIn xs := by
  obtain ⟨q, c, rfl, _, _, _, hrow⟩ := Lay.list_open h
  intro x hx
  obtain ⟨i, hi, rfl⟩ := List.getElem_of_mem hx
  obtain ⟨b, o, cs, _, hcs, _⟩ := hrow.get i hi
  exact (hitL_open hcs).2
/-- A hit more: what is there, and why not. -/
def addH (l : List Hit) (k : Int) (h : Hit) : List Hit := if okH l k ∧ fineH h ∧ l.any (fun x => decide (x.id = h.id)) = false then addL l k.toNat h else []
def addX (l : List Hit) (k : Int) (h : Hit) : Int := if okH l k ∧ fineH h then (if l.any (fun x => decide (x.id = h.id)) = false then 0 else 6) else 1
/-- A list of hits of the call's own, and an error. -/
def OwnHE (w : World) (m : Mem) (R : List Hit) (E : Int) (e : Ending) (w' : World) : Prop := ∃ q c, e = .returned (.tuple #[.slice q R.length c, .int .i64 E]) ∧ HitsIn R ∧ St [] w m w' [rowQ q c R.length (cellsH R)] m
theorem ent_same : Enters Try.prog 33 := enters_of Try.func33 (by kernel_rfl) rfl
theorem addX_bad {l : List Hit} {k : Int} {h : Hit} (hb : ¬ (okH l k ∧ fineH h)) : addX l k h = 1 ∧ addH l k h = [] := ⟨if_neg hb, if_neg fun hh => hb ⟨hh.1, hh.2.1⟩⟩
theorem addX_there {l : List Hit} {k : Int} {h : Hit} (ho : okH l k) (hf : fineH h) (ht : l.any (fun x => decide (x.id = h.id)) = true) : addX l k h = 6 ∧ addH l k h = [] := by
  refine ⟨?_, if_neg fun hh => by rw [ht] at hh; cases hh.2.2⟩
  unfold addX
  rw [if_pos ⟨ho, hf⟩, if_neg (by rw [ht]; exact Bool.noConfusion)]
theorem addX_ok {l : List Hit} {k : Int} {h : Hit} (ho : okH l k) (hf : fineH h) (ht : l.any (fun x => decide (x.id = h.id)) = false) : addX l k h = 0 ∧ addH l k h = addL l k.toNat h := by
  refine ⟨?_, if_pos ⟨ho, hf, ht⟩⟩
  unfold addX
  rw [if_pos ⟨ho, hf⟩, if_pos ht]
theorem St.noHits {w0 w : World} {m0 m : Mem} {es : List Ent} (hS : St [] w0 m0 w es m) : St [] w0 m0 w [rowQ none 0 0 (cellsH [])] m := hS.done.nilRow _ _
theorem oddB_fine {h : Hit} : oddB h = false ↔ fineH h := by have := any_odd (l := [h]); simpa using this
theorem addL_in {l : List Hit} {k : Nat} {h : Hit} (hh : Heap l l.length) (hl : HitsIn l) (hi : InK .i64 h.dist ∧ InK .i64 h.id) : HitsIn (addL l k h) := fun x hx => (pushed hh x hx).elim (hl x) fun e => e ▸ hi
set_option maxRecDepth 100000 in
set_option maxHeartbeats 4000000 in
theorem badd_c (m : Mem) (w : World) (hm : m.In w) (v : Value) (xs : List Hit) (hr : hitL.list.rd m [v] xs) (K : Int) (hK : InK .i64 K) (h : Hit) (hh : InK .i64 h.dist ∧ InK .i64 h.id) :
    Calls Try.prog 12 #[v, .int .i64 K, hitA h] w (OwnHE w m (addH xs K h) (addX xs K h)) := by
  have hS := St.start hm
  have HH := Lib.hid hh
  have HL := Lib.hid hr
  obtain ⟨q, c, rfl, _, _, _, _⟩ := Lay.list_open hr
  clear hr hh
  by_cases hok : okH xs K
  · have hc : chkE xs K = 0 := if_pos hok
    by_cases hfine : fineH h
    · have ho : oddB h = false := oddB_fine.2 hfine
      cases hthere : xs.any (fun x => decide (x.id = h.id)) with
      | true =>
        obtain ⟨e1, e2⟩ := addX_there hok hfine hthere
        rw [e1, e2]
        clear e1 e2 hok hfine
        go_enter Try.func12, Try.ntmps12
        go_wp2_with (first 
    | ((with_reducible refine' Wl.out ?_; apply k_box (ty := 30) (y := (.tmp 2)) hS); (· exact .mk); clear hS; intro w5 b5 hS)
    | ((with_reducible refine' Wl.out ?_; apply k_alloc (ty := 67) (dst := some 8) hS); (· exact .mk); clear hS; intro w8 b8 hS)
    | ((with_reducible refine' Wl.out ?_; apply k_load hS); (· exact .mk))
    | ((with_reducible refine' Wl.out ?_; apply k_loads hS); (· exact .mk))
    | go_skip
    | ((with_reducible refine' Wl.out ?_; apply kg_load hS); iterate 2 (· exact .mk))
    | ((with_reducible refine' Wl.out ?_; apply kg_loads hS); iterate 2 (· exact .mk))
    | ((with_reducible refine' Wl.out ?_; refine' wg_case ?_ ?_) <;> (intro hgW; (try (have hg2 := hgW; simp [go_sem] at hg2)); (first | (exfalso; assumption) | ((with_reducible refine' Wl.out ?_; apply k_no hgW)) | ((with_reducible refine' Wl.out ?_; apply kg_load hS ⟨hgW⟩); (· exact .mk)) | ((with_reducible refine' Wl.out ?_; apply kg_loads hS ⟨hgW⟩); (· exact .mk))); clear hgW))
    | ((with_reducible refine' Wl.out ?_; apply k_store hS); (· exact .mk); clear hS; intro ws hS)
    | ((with_reducible refine' Wl.out ?_; apply k_storeR hS); (· exact .mk); clear hS; intro ws hS)
          | (go_at_call 13; refine (bcheck_c m _ hS.inw _ xs HL.out K hK).mono ?_; rintro e' w12 ⟨_, m12, rfl, hv12, hk12⟩; replace hS := hS.grow (grownBy_of_below hk12.below); clear hk12; rw [hc] at hv12; subst hv12)
          | (go_at_call 31; refine (odd_c m _ hS.inw h).mono ?_; rintro e' w16 ⟨_, m16, rfl, hv16, hk16⟩; replace hS := hS.grow (grownBy_of_below hk16.below); clear hk16; rw [ho] at hv16; subst hv16)
          | (go_at_call 32; refine (contains_c (World.mem _) _ (World.mem_in _) q c xs (Lay.mono _ hS.inw HL.out) _ _ (fun x => decide (x.id = h.id)) ent_same (Tells.one fun w' hm' x => same_id_c _ w' hm' x h b5 (hS.find (.box (by (repeat constructor)) rfl)))).mono ?_; rintro e' w21 ⟨_, m21, rfl, hv21, hk21⟩; replace hS := hS.grow (grownBy_of_below hk21.below); clear hk21; rw [hthere] at hv21; subst hv21))
        go_ret2
        exact ⟨none, 0, rfl, by simp [HitsIn], hS.noHits⟩
      | false =>
        obtain ⟨e1, e2⟩ := addX_ok hok hfine hthere
        obtain ⟨o1, o2, o3, _, _, o6⟩ := hok
        have hIn := Lib.hid (addL_in (k := K.toNat) o6 (hits_in HL.out) HH.out)
        obtain ⟨_, p2, _⟩ := push_ok (h := h) o6
        have hpl : Hid ((pushL xs h).length = xs.length + 1) := p2
        rw [e1, e2]
        clear e1 e2 hfine p2
        by_cases hbig : K < (xs.length : Int) + 1
        · have eL : addL xs K.toNat h = popL (pushL xs h) := if_pos (by rw [hpl.out]; omega)
          have hpp := Lib.hid (pop_ok (l := pushL xs h) (by rw [hpl.out]; omega) (by rw [hpl.out]; exact (push_ok (h := h) o6).2.2)).2.1
          rw [eL] at hIn ⊢
          clear eL o6
          go_enter Try.func12, Try.ntmps12
          go_wp2_with (first 
    | ((with_reducible refine' Wl.out ?_; apply k_box (ty := 30) (y := (.tmp 2)) hS); (· exact .mk); clear hS; intro w5 b5 hS)
    | ((with_reducible refine' Wl.out ?_; apply k_alloc (ty := 67) (dst := some 8) hS); (· exact .mk); clear hS; intro w8 b8 hS)
    | ((with_reducible refine' Wl.out ?_; apply k_load hS); (· exact .mk))
    | ((with_reducible refine' Wl.out ?_; apply k_loads hS); (· exact .mk))
    | go_skip
    | ((with_reducible refine' Wl.out ?_; apply kg_load hS); iterate 2 (· exact .mk))
    | ((with_reducible refine' Wl.out ?_; apply kg_loads hS); iterate 2 (· exact .mk))
    | ((with_reducible refine' Wl.out ?_; refine' wg_case ?_ ?_) <;> (intro hgW; (try (have hg2 := hgW; simp [go_sem] at hg2)); (first | (exfalso; assumption) | ((with_reducible refine' Wl.out ?_; apply k_no hgW)) | ((with_reducible refine' Wl.out ?_; apply kg_load hS ⟨hgW⟩); (· exact .mk)) | ((with_reducible refine' Wl.out ?_; apply kg_loads hS ⟨hgW⟩); (· exact .mk))); clear hgW))
    | ((with_reducible refine' Wl.out ?_; apply k_store hS); (· exact .mk); clear hS; intro ws hS)
    | ((with_reducible refine' Wl.out ?_; apply k_storeR hS); (· exact .mk); clear hS; intro ws hS)
          | (go_at_call 13; refine (bcheck_c m _ hS.inw _ xs HL.out K hK).mono ?_; rintro e' w12 ⟨_, m12, rfl, hv12, hk12⟩; replace hS := hS.grow (grownBy_of_below hk12.below); clear hk12; rw [hc] at hv12; subst hv12)
          | (go_at_call 31; refine (odd_c m _ hS.inw h).mono ?_; rintro e' w16 ⟨_, m16, rfl, hv16, hk16⟩; replace hS := hS.grow (grownBy_of_below hk16.below); clear hk16; rw [ho] at hv16; subst hv16)
          | (go_at_call 32; refine (contains_c (World.mem _) _ (World.mem_in _) q c xs (Lay.mono _ hS.inw HL.out) _ _ (fun x => decide (x.id = h.id)) ent_same (Tells.one fun w' hm' x => same_id_c _ w' hm' x h b5 (hS.find (.box (by (repeat constructor)) rfl)))).mono ?_; rintro e' w21 ⟨_, m21, rfl, hv21, hk21⟩; replace hS := hS.grow (grownBy_of_below hk21.below); clear hk21; rw [hthere] at hv21; subst hv21)
          | (go_at_call 34; refine (hclone_c m _ hS.inw _ HL.out).mono ?_; rintro e' w23 ⟨q23, c23, cells23, rfl, hcells, hk23⟩; replace hS := hS.callOwn hk23; clear hk23; obtain ⟨rfl, hin⟩ := cellsOf_hits hcells; clear hcells; simp only [List.cons_append, List.nil_append] at hS)
          | (go_at_call 35; refine (push_c (n := xs.length) (l := xs) h (St.sub (ls := [_, _]) hS) rfl (by omega)).mono ?_; rintro e' w27 ⟨rfl, g, c27, hk27⟩; replace hS := St.lendL (ls := [_, _]) hS hk27; clear hk27; simp only [List.cons_append, List.nil_append] at hS)
          | (go_at_call 36; refine (pop_c (n := xs.length) (l := pushL xs h) (St.sub (ls := [_, _]) hS) hpl.out (by omega)).mono ?_; rintro e' w33 ⟨⟨v33, rfl⟩, hk33⟩; replace hS := St.lendL (ls := [_, _]) hS hk33; clear hk33; simp only [List.cons_append, List.nil_append] at hS))
          go_ret2
          have e : (popL (pushL xs h)).length = xs.length := by rw [hpp.out, hpl.out]; omega
          exact ⟨some ⟨g, 0, none⟩, c27, by rw [e]; rfl, hIn.out, by rw [e]; exact (hS.forget (x := .box b8 _) (by (repeat constructor))).drop _ (by simp)⟩
        · have eL : addL xs K.toNat h = pushL xs h := if_neg (by rw [hpl.out]; omega)
          rw [eL] at hIn ⊢
          clear eL o6
          go_enter Try.func12, Try.ntmps12
          go_wp2_with (first 
    | ((with_reducible refine' Wl.out ?_; apply k_box (ty := 30) (y := (.tmp 2)) hS); (· exact .mk); clear hS; intro w5 b5 hS)
    | ((with_reducible refine' Wl.out ?_; apply k_alloc (ty := 67) (dst := some 8) hS); (· exact .mk); clear hS; intro w8 b8 hS)
    | ((with_reducible refine' Wl.out ?_; apply k_load hS); (· exact .mk))
    | ((with_reducible refine' Wl.out ?_; apply k_loads hS); (· exact .mk))
    | go_skip
    | ((with_reducible refine' Wl.out ?_; apply kg_load hS); iterate 2 (· exact .mk))
    | ((with_reducible refine' Wl.out ?_; apply kg_loads hS); iterate 2 (· exact .mk))
    | ((with_reducible refine' Wl.out ?_; refine' wg_case ?_ ?_) <;> (intro hgW; (try (have hg2 := hgW; simp [go_sem] at hg2)); (first | (exfalso; assumption) | ((with_reducible refine' Wl.out ?_; apply k_no hgW)) | ((with_reducible refine' Wl.out ?_; apply kg_load hS ⟨hgW⟩); (· exact .mk)) | ((with_reducible refine' Wl.out ?_; apply kg_loads hS ⟨hgW⟩); (· exact .mk))); clear hgW))
    | ((with_reducible refine' Wl.out ?_; apply k_store hS); (· exact .mk); clear hS; intro ws hS)
    | ((with_reducible refine' Wl.out ?_; apply k_storeR hS); (· exact .mk); clear hS; intro ws hS)
          | (go_at_call 13; refine (bcheck_c m _ hS.inw _ xs HL.out K hK).mono ?_; rintro e' w12 ⟨_, m12, rfl, hv12, hk12⟩; replace hS := hS.grow (grownBy_of_below hk12.below); clear hk12; rw [hc] at hv12; subst hv12)
          | (go_at_call 31; refine (odd_c m _ hS.inw h).mono ?_; rintro e' w16 ⟨_, m16, rfl, hv16, hk16⟩; replace hS := hS.grow (grownBy_of_below hk16.below); clear hk16; rw [ho] at hv16; subst hv16)
          | (go_at_call 32; refine (contains_c (World.mem _) _ (World.mem_in _) q c xs (Lay.mono _ hS.inw HL.out) _ _ (fun x => decide (x.id = h.id)) ent_same (Tells.one fun w' hm' x => same_id_c _ w' hm' x h b5 (hS.find (.box (by (repeat constructor)) rfl)))).mono ?_; rintro e' w21 ⟨_, m21, rfl, hv21, hk21⟩; replace hS := hS.grow (grownBy_of_below hk21.below); clear hk21; rw [hthere] at hv21; subst hv21)
          | (go_at_call 34; refine (hclone_c m _ hS.inw _ HL.out).mono ?_; rintro e' w23 ⟨q23, c23, cells23, rfl, hcells, hk23⟩; replace hS := hS.callOwn hk23; clear hk23; obtain ⟨rfl, hin⟩ := cellsOf_hits hcells; clear hcells; simp only [List.cons_append, List.nil_append] at hS)
          | (go_at_call 35; refine (push_c (n := xs.length) (l := xs) h (St.sub (ls := [_, _]) hS) rfl (by omega)).mono ?_; rintro e' w27 ⟨rfl, g, c27, hk27⟩; replace hS := St.lendL (ls := [_, _]) hS hk27; clear hk27; simp only [List.cons_append, List.nil_append] at hS)
          | (go_at_call 36; refine (pop_c (n := xs.length) (l := pushL xs h) (St.sub (ls := [_, _]) hS) hpl.out (by omega)).mono ?_; rintro e' w33 ⟨⟨v33, rfl⟩, hk33⟩; replace hS := St.lendL (ls := [_, _]) hS hk33; clear hk33; simp only [List.cons_append, List.nil_append] at hS))
          go_ret2
          exact ⟨some ⟨g, 0, none⟩, _, by rw [hpl.out]; rfl, hIn.out, by rw [hpl.out]; exact (hS.forget (x := .box b8 _) (by (repeat constructor))).drop _ (by simp)⟩
    · have ho : oddB h = true := by cases hx : oddB h with | true => rfl | false => exact absurd (oddB_fine.1 hx) hfine
      obtain ⟨e1, e2⟩ := addX_bad (l := xs) (k := K) (h := h) (fun hh => hfine hh.2)
      rw [e1, e2]
      clear e1 e2 hok hfine
      go_enter Try.func12, Try.ntmps12
      go_wp2_with (first 
    | ((with_reducible refine' Wl.out ?_; apply k_box (ty := 30) (y := (.tmp 2)) hS); (· exact .mk); clear hS; intro w5 b5 hS)
    | ((with_reducible refine' Wl.out ?_; apply k_alloc (ty := 67) (dst := some 8) hS); (· exact .mk); clear hS; intro w8 b8 hS)
    | ((with_reducible refine' Wl.out ?_; apply k_load hS); (· exact .mk))
    | ((with_reducible refine' Wl.out ?_; apply k_loads hS); (· exact .mk))
    | go_skip
    | ((with_reducible refine' Wl.out ?_; apply kg_load hS); iterate 2 (· exact .mk))
    | ((with_reducible refine' Wl.out ?_; apply kg_loads hS); iterate 2 (· exact .mk))
    | ((with_reducible refine' Wl.out ?_; refine' wg_case ?_ ?_) <;> (intro hgW; (try (have hg2 := hgW; simp [go_sem] at hg2)); (first | (exfalso; assumption) | ((with_reducible refine' Wl.out ?_; apply k_no hgW)) | ((with_reducible refine' Wl.out ?_; apply kg_load hS ⟨hgW⟩); (· exact .mk)) | ((with_reducible refine' Wl.out ?_; apply kg_loads hS ⟨hgW⟩); (· exact .mk))); clear hgW))
    | ((with_reducible refine' Wl.out ?_; apply k_store hS); (· exact .mk); clear hS; intro ws hS)
    | ((with_reducible refine' Wl.out ?_; apply k_storeR hS); (· exact .mk); clear hS; intro ws hS)
          | (go_at_call 13; refine (bcheck_c m _ hS.inw _ xs HL.out K hK).mono ?_; rintro e' w12 ⟨_, m12, rfl, hv12, hk12⟩; replace hS := hS.grow (grownBy_of_below hk12.below); clear hk12; rw [hc] at hv12; subst hv12)
          | (go_at_call 31; refine (odd_c m _ hS.inw h).mono ?_; rintro e' w16 ⟨_, m16, rfl, hv16, hk16⟩; replace hS := hS.grow (grownBy_of_below hk16.below); clear hk16; rw [ho] at hv16; subst hv16))
      go_ret2
      exact ⟨none, 0, rfl, by simp [HitsIn], hS.noHits⟩
  · have hc : chkE xs K = 1 := if_neg hok
    obtain ⟨e1, e2⟩ := addX_bad (l := xs) (k := K) (h := h) (fun hh => hok hh.1)
    rw [e1, e2]
    clear e1 e2 hok
    go_enter Try.func12, Try.ntmps12
    go_wp2_with (first 
    | ((with_reducible refine' Wl.out ?_; apply k_box (ty := 30) (y := (.tmp 2)) hS); (· exact .mk); clear hS; intro w5 b5 hS)
    | ((with_reducible refine' Wl.out ?_; apply k_alloc (ty := 67) (dst := some 8) hS); (· exact .mk); clear hS; intro w8 b8 hS)
    | ((with_reducible refine' Wl.out ?_; apply k_load hS); (· exact .mk))
    | ((with_reducible refine' Wl.out ?_; apply k_loads hS); (· exact .mk))
    | go_skip
    | ((with_reducible refine' Wl.out ?_; apply kg_load hS); iterate 2 (· exact .mk))
    | ((with_reducible refine' Wl.out ?_; apply kg_loads hS); iterate 2 (· exact .mk))
    | ((with_reducible refine' Wl.out ?_; refine' wg_case ?_ ?_) <;> (intro hgW; (try (have hg2 := hgW; simp [go_sem] at hg2)); (first | (exfalso; assumption) | ((with_reducible refine' Wl.out ?_; apply k_no hgW)) | ((with_reducible refine' Wl.out ?_; apply kg_load hS ⟨hgW⟩); (· exact .mk)) | ((with_reducible refine' Wl.out ?_; apply kg_loads hS ⟨hgW⟩); (· exact .mk))); clear hgW))
    | ((with_reducible refine' Wl.out ?_; apply k_store hS); (· exact .mk); clear hS; intro ws hS)
    | ((with_reducible refine' Wl.out ?_; apply k_storeR hS); (· exact .mk); clear hS; intro ws hS)
          | (go_at_call 13; refine (bcheck_c m _ hS.inw _ xs HL.out K hK).mono ?_; rintro e' w12 ⟨_, m12, rfl, hv12, hk12⟩; replace hS := hS.grow (grownBy_of_below hk12.below); clear hk12; rw [hc] at hv12; subst hv12))
    go_ret2
    exact ⟨none, 0, rfl, by simp [HitsIn], hS.noHits⟩
end Go.Proofs.Ytlkdjmpkapeppaa
/- The rules of the walk inside a fence (the rounds of a range over a function). -/
namespace Go.Proofs.Ytlkdjmpkapeppaa
set_option linter.unusedVariables false
set_option linter.unusedSimpArgs false
open Go.RowKit
variable {F : Fence} {fu : Nat} {ops : Array Oper} {P : Program} {X : List Nat} {w0 w : World} {m0 m : Mem} {es : List Ent} {o : Oper} {a : Act} {K : Act → World → Prop} {Q : Exit → Act → World → Prop}
variable {rest : List Oper} {dst : Option Tmp} {rt : TypeId} {pos : String} {af : Array Edge} {E : Prop} {g : Nat × Bool}
/-- What comes of an operation that enters nothing. -/
def Plain (r : Result Next) : Prop := match r with | .ok (.value _) _ => True | .ok .skip _ => True | .ok _ _ => False | .halt _ _ => True
theorem upon_plain {r : Result Next} (hr : Plain r) (h : o.upon P a K (fun _ _ _ => False) r) : o.uponIn F fu P a K Q r := by
  cases r with
  | ok v w' => cases v <;> first | exact h | exact hr.elim
  | halt e w' => cases e <;> exact False.elim h
theorem plain_value (s : Sem Value) (w : World) : Plain ((do pure (.value (← s)) : Sem Next).run P w) := by
  rw [Sem.run_bind]
  cases s.run P w with
  | ok v w' => exact trivial
  | halt e w' => exact trivial
theorem plain_unit (s : Sem Unit) (w : World) : Plain ((do s; pure .skip : Sem Next).run P w) := by
  rw [Sem.run_bind]
  cases s.run P w with
  | ok v w' => exact trivial
  | halt e w' => exact trivial
/-- Such an operation. -/
inductive Calm : Op → Prop
  | load {t : TypeId} {x : Operand} : Calm (.load t x)
  | store {t : TypeId} {x y : Operand} : Calm (.store t x y)
  | box {t : TypeId} {x : Operand} : Calm (.box t x)
  | alloc {t : TypeId} : Calm (.alloc t)
  | lit {t : TypeId} {n : Nat} {l : Array (Nat × Operand)} : Calm (.buildSlice t n l)
  | make {t : TypeId} {x y : Operand} : Calm (.makeSlice t x y)
  | append {c : Array Operand} {ts : Array TypeId} : Calm (.call { callee := .builtin .append, args := c, argTypes := ts })
  | copy {c : Array Operand} {ts : Array TypeId} : Calm (.call { callee := .builtin .copy, args := c, argTypes := ts })
theorem Calm.plain (h : Calm o.op) : Plain ((execOp a.eval o).run P w) ∧ o.about P w a.eval = none ∧ ∀ c, o.op ≠ .defer c := by
  obtain ⟨d, op, rt, ps, af, gd⟩ := o
  simp only at h
  cases h with
  | load => exact ⟨plain_value _ _, rfl, fun c e => Op.noConfusion e⟩
  | store => exact ⟨plain_unit _ _, rfl, fun c e => Op.noConfusion e⟩
  | box => exact ⟨plain_value _ _, rfl, fun c e => Op.noConfusion e⟩
  | alloc => exact ⟨plain_value _ _, rfl, fun c e => Op.noConfusion e⟩
  | lit => exact ⟨plain_value _ _, rfl, fun c e => Op.noConfusion e⟩
  | make => exact ⟨plain_value _ _, rfl, fun c e => Op.noConfusion e⟩
  | append => exact ⟨plain_value _ _, rfl, fun c e => Op.noConfusion e⟩
  | copy => exact ⟨plain_value _ _, rfl, fun c e => Op.noConfusion e⟩
theorem wpIn_calm (hc : Calm o.op) (h : o.wp P a w K (fun _ _ _ => False)) : o.wpIn F fu P a w K Q := by
  obtain ⟨h1, h2, h3⟩ := hc.plain (P := P) (w := w) (a := a)
  refine ⟨fun f hf => (by rw [h2] at hf; cases hf), ?_⟩
  rw [Oper.semAt_eq _ _ _ h3]
  exact upon_plain h1 h
theorem li_plain (hc : Calm o.op) (hg : o.guard = none) (h : ∀ K : Act → World → Prop, (∀ a w, wpListIn F fu P ops Q rest a w → K a w) → o.wp P a w K (fun _ _ _ => False)) : wpListIn F fu P ops Q (o :: rest) a w :=
  wpListIn_plain hg fun K hK => wpIn_calm hc (h K hK)
inductive Li (F : Fence) (fu : Nat) (P : Program) (ops : Array Oper) (Q : Exit → Act → World → Prop) (l : List Oper) (a : Act) (w : World) : Prop
  | mk : wpListIn F fu P ops Q l a w → Li F fu P ops Q l a w
theorem Li.out {l : List Oper} (h : Li F fu P ops Q l a w) : wpListIn F fu P ops Q l a w := by cases h; assumption
theorem li_box {ty : TypeId} {y : Operand} (hS : St X w0 m0 w es m) {cs : List Value} {v : Value} (hy : a.eval y = v) (hc : v.cells = cs.toArray) (h : ∀ w' b, St X w0 m0 w' (.box b cs :: es) m → wpListIn F fu P ops Q rest (a.put dst (.pointer (some ⟨b, 0, none⟩))) w') : Li F fu P ops Q (⟨dst, .box ty y, rt, pos, af, none⟩ :: rest) a w := ⟨(
  li_plain .box rfl fun K hK => op_box hS ty y rfl cs (by rw [hy]; exact hc) fun w' b hw => hK _ _ (h w' b hw))⟩
theorem li_alloc {ty : TypeId} (hS : St X w0 m0 w es m) (z : Value) (cs : List Value) (hz : (P.info? ty).bind (·.zero) = some z) (hc : z.cells = cs.toArray) (h : ∀ w' b, St X w0 m0 w' (.box b cs :: es) m → wpListIn F fu P ops Q rest (a.put dst (.pointer (some ⟨b, 0, none⟩))) w') : Li F fu P ops Q (⟨dst, .alloc ty, rt, pos, af, none⟩ :: rest) a w := ⟨(
  li_plain .alloc rfl fun K hK => op_alloc hS ty rfl z hz cs hc fun w' b hw => hK _ _ (h w' b hw))⟩
theorem li_load {ty : TypeId} {x : Operand} (hS : St X w0 m0 w es m) {d : TypeDesc} (hu : P.underlying ty = some d) (hd : d.isRow = false) {b off : Nat} (hx : a.eval x = .pointer (some ⟨b, off, none⟩)) {v : Value} (hv : Find es m b off v)
    (h : wpListIn F fu P ops Q rest (a.put dst v) w) : Li F fu P ops Q (⟨dst, .load ty x, rt, pos, af, none⟩ :: rest) a w := ⟨( li_plain .load rfl fun K hK => a_load hS ty x rfl hu hd hx hv (hK _ _ h))⟩
theorem li_loads {ty : TypeId} {x : Operand} (hS : St X w0 m0 w es m) {n : Nat} (hn : ∃ d, P.underlying ty = some d ∧ d.isRow = true ∧ (P.info? ty).map (·.size) = some n) {b off : Nat} (hx : a.eval x = .pointer (some ⟨b, off, none⟩)) {vs : List Value} (hv : Finds es m b off n vs)
    (h : wpListIn F fu P ops Q rest (a.put dst (.agg vs.toArray)) w) : Li F fu P ops Q (⟨dst, .load ty x, rt, pos, af, none⟩ :: rest) a w := ⟨( by
  obtain ⟨d, hu, hd, hn⟩ := hn
  exact li_plain .load rfl fun K hK => a_loads hS ty x rfl hu hd n hn hx hv (hK _ _ h))⟩
theorem li_store {ty : TypeId} {x y : Operand} (hS : St X w0 m0 w es m) (hn : ∃ d, P.underlying ty = some d ∧ d.isRow = false ∧ (P.info? ty).map (·.size) = some 1) {b off : Nat} (hx : a.eval x = .pointer (some ⟨b, off, none⟩)) {v : Value} (hy : a.eval y = v) (h1 : v.oneCell' = true) {cs cs' : List Value} {es' : List Ent}
    (hM : Ent.box b cs ∈ es) (hs : SetsL cs off [v] cs') (hU : UpdB es b cs cs' es') (h : ∀ w', St X w0 m0 w' es' m → wpListIn F fu P ops Q rest (a.put dst undef) w') : Li F fu P ops Q (⟨dst, .store ty x y, rt, pos, af, none⟩ :: rest) a w := ⟨( by
  obtain ⟨d, hu, hd, hn⟩ := hn
  exact li_plain .store rfl fun K hK => a_store hS ty x y rfl hn hx hy h1 hU hs fun w' hw => hK _ _ (h w' hw))⟩
theorem li_stores {ty : TypeId} {x y : Operand} (hS : St X w0 m0 w es m) {n : Nat} (hn : ∃ d, P.underlying ty = some d ∧ d.isRow = true ∧ (P.info? ty).map (·.size) = some n) {b off : Nat} (hx : a.eval x = .pointer (some ⟨b, off, none⟩)) {vs : List Value} (hy : a.eval y = .agg vs.toArray) (hl : vs.length = n) (h1 : ∀ v ∈ vs, v.oneCell' = true) {cs cs' : List Value} {es' : List Ent}
    (hM : Ent.box b cs ∈ es) (hs : SetsL cs off vs cs') (hU : UpdB es b cs cs' es') (h : ∀ w', St X w0 m0 w' es' m → wpListIn F fu P ops Q rest (a.put dst undef) w') : Li F fu P ops Q (⟨dst, .store ty x y, rt, pos, af, none⟩ :: rest) a w := ⟨( by
  obtain ⟨d, hu, hd, hn⟩ := hn
  exact li_plain .store rfl fun K hK => a_stores hS ty x y rfl n hn hx hy hl h1 hU hs fun w' hw => hK _ _ (h w' hw))⟩
theorem li_append {α : Type} (L : Lay α) {t e : TypeId} {z : Value} (hE : Elem P t e L.n L.bytes z) {s x : Operand} (hS : St X w0 m0 w es m) (hb : 0 < L.bytes) {v xv : Value} {n : Nat} {xs : List Value} {ys : List α} {f : Value → Nat → List Value → List Ent}
    (hs : a.eval s = v) (hi : RowAt es e L.n v n xs f) (hx : a.eval x = xv) (hr : L.list.rd m [xv] ys) (hbytes : (n + ys.length) * L.bytes ≤ 140737488355328)
    (h : ∀ w' q c news, CellsOf L m news ys → St X w0 m0 w' (f (.slice q (n + ys.length) c) (n + ys.length) (xs ++ news)) m → wpListIn F fu P ops Q rest (a.put dst (.slice q (n + ys.length) c)) w') : Li F fu P ops Q (⟨dst, .call { callee := .builtin .append, args := #[s, x], argTypes := #[t, t] }, rt, pos, af, none⟩ :: rest) a w := ⟨(
  li_plain .append rfl fun K hK => op_appendL hS hE s x rfl hs hi hx hr hbytes hb fun w' q c news hc hw => hK _ _ (h w' q c news hc hw))⟩
theorem li_append_nil {α : Type} (L : Lay α) {t e : TypeId} {z : Value} (hE : Elem P t e L.n L.bytes z) {s x : Operand} (hS : St X w0 m0 w es m) (hb : 0 < L.bytes) {xv : Value} {ys : List α}
    (hs : a.eval s = .slice none 0 0) (hx : a.eval x = xv) (hr : L.list.rd m [xv] ys)
    (h : ∀ w' q c news, CellsOf L m news ys → St X w0 m0 w' (.row e L.n (.slice q ys.length c) ys.length news :: es) m → wpListIn F fu P ops Q rest (a.put dst (.slice q ys.length c)) w') : Li F fu P ops Q (⟨dst, .call { callee := .builtin .append, args := #[s, x], argTypes := #[t, t] }, rt, pos, af, none⟩ :: rest) a w := ⟨(
  li_plain .append rfl fun K hK => op_appendL_nil hS hE s x rfl hs hx hr hb fun w' q c news hc hw => hK _ _ (h w' q c news hc hw))⟩
theorem li_appendB {t e : TypeId} {size bytes : Nat} {z : Value} (hE : Elem P t e size bytes z) {s x : Operand} (hS : St X w0 m0 w es m) (hb : 0 < bytes) {v : Value} {n : Nat} {xs : List Value} {b k c : Nat} {cs : List Value} {f : Value → Nat → List Value → List Ent} (hs : a.eval s = v) (hi : RowAt es e size v n xs f)
    (hx : a.eval x = .slice (some ⟨b, 0, none⟩) k c) (hM : Ent.box b cs ∈ es) (hl : cs.length = k * size) (h1 : ∀ u ∈ cs, u.oneCell' = true) (hbytes : (n + k) * bytes ≤ 140737488355328)
    (h : ∀ w' q c, St X w0 m0 w' (f (.slice q (n + k) c) (n + k) (xs ++ cs)) m → wpListIn F fu P ops Q rest (a.put dst (.slice q (n + k) c)) w') : Li F fu P ops Q (⟨dst, .call { callee := .builtin .append, args := #[s, x], argTypes := #[t, t] }, rt, pos, af, none⟩ :: rest) a w := ⟨(
  li_plain .append rfl fun K hK => op_appendB hS hE s x rfl hs hi hx hM hl h1 hbytes hb fun w' q c hw => hK _ _ (h w' q c hw))⟩
theorem li_lit {t e : TypeId} {size bytes : Nat} {z : Value} (hE : Elem P t e size bytes z) {len : Nat} {parts : Array (Nat × Operand)} (hS : St X w0 m0 w es m) {cs : List Value} (hlen : len * size ≤ 16777216) (hpos : len * size ≠ 0)
    (hf : Instr.fill (fun i => some (i * size, size)) ((Array.range (len * size)).map (z.cells[· % z.cells.size]!)) (parts.map fun (i, x) => (i, a.eval x)).toList = some cs.toArray)
    (h : ∀ w' b, St X w0 m0 w' (.box b cs :: es) m → wpListIn F fu P ops Q rest (a.put dst (.slice (some ⟨b, 0, none⟩) len len)) w') : Li F fu P ops Q (⟨dst, .buildSlice t len parts, rt, pos, af, none⟩ :: rest) a w := ⟨(
  li_plain .lit rfl fun K hK => op_lit hS hE len parts rfl hlen hpos cs hf fun w' b hw => hK _ _ (h w' b hw))⟩
theorem li_copyR {d s : Operand} {dT sT elem t : TypeId} (hS : St X w0 m0 w es m) (hu : P.underlying dT = some (.slice elem)) (hsz : (P.info? elem).map (·.size) = some 1)
    {k : IntKind} {dry xs : List Int} {g cd off n dLen dCap : Nat} {sv : Value} {f : Value → Nat → List Value → List Ent} (hd : a.eval d = .slice (some ⟨g, off, none⟩) dLen dCap) (hi : RowAt es t 1 (.slice (some ⟨g, 0, none⟩) n cd) n (dry.map (.int k)) f) (hn : dry.length = n)
    (hs : a.eval s = sv) (hr : (Lay.int k).list.rd m [sv] xs) (hx : xs.length ≤ dLen) (hfit : off + dLen ≤ n)
    (h : ∀ w', St X w0 m0 w' (f (.slice (some ⟨g, 0, none⟩) n cd) n ((splice dry off xs).map (.int k))) m → wpListIn F fu P ops Q rest (a.put dst (.int .i64 xs.length)) w') : Li F fu P ops Q (⟨dst, .call { callee := .builtin .copy, args := #[d, s], argTypes := #[dT, sT] }, rt, pos, af, none⟩ :: rest) a w := ⟨(
  li_plain .copy rfl fun K hK => op_copyR hS d s dT sT rfl hu hsz hd hi hn hs hr hx hfit fun w' hw => hK _ _ (h w' hw))⟩
theorem li_storeR {ty : TypeId} {x y : Operand} (hS : St X w0 m0 w es m) (hn : ∃ d, P.underlying ty = some d ∧ d.isRow = false ∧ (P.info? ty).map (·.size) = some 1) {g off : Nat} (hx : a.eval x = .pointer (some ⟨g, off, none⟩)) {v : Value} (hy : a.eval y = v) (h1 : v.oneCell' = true)
    {e : TypeId} {size n c : Nat} {xs : List Value} {f : Value → Nat → List Value → List Ent} (hi : RowAt es e size (.slice (some ⟨g, 0, none⟩) n c) n xs f) (hl : off < xs.length)
    (h : ∀ w', St X w0 m0 w' (f (.slice (some ⟨g, 0, none⟩) n c) n (xs.set off v)) m → wpListIn F fu P ops Q rest (a.put dst undef) w') : Li F fu P ops Q (⟨dst, .store ty x y, rt, pos, af, none⟩ :: rest) a w := ⟨(
  li_plain .store rfl fun K hK => op_storeR hS ty x y rfl hn hx hy h1 hi hl fun w' hw => hK _ _ (h w' hw))⟩
theorem li_make {t e : TypeId} {size bytes : Nat} {z : Value} (hE : Elem P t e size bytes z) {l c : Operand} (n : Nat) (hS : St X w0 m0 w es m) {kl kc : IntKind} {xl xc : Int} (hl : a.eval l = .int kl xl) (hc : a.eval c = .int kc xc) (hl2 : xl = n) (hc2 : xc = n) (hbytes : bytes * n ≤ 281474976710656) (h24 : n * size ≤ 16777216) (h63 : n ≤ maxLen)
    (h : ∀ w' b, St X w0 m0 w' (.row e size (.slice (some ⟨b, 0, none⟩) n n) n (madeCells z.cells (n * size)).toList :: es) m → wpListIn F fu P ops Q rest (a.put dst (.slice (some ⟨b, 0, none⟩) n n)) w') : Li F fu P ops Q (⟨dst, .makeSlice t l c, rt, pos, af, none⟩ :: rest) a w := ⟨(
  li_plain .make rfl fun K hK => op_make hS hE l c rfl n hl hc hl2 hc2 hbytes h24 h63 fun w' b hw => hK _ _ (h w' b hw))⟩
theorem li_lit0 {t e : TypeId} {size bytes : Nat} {z : Value} (hE : Elem P t e size bytes z) (hS : St X w0 m0 w es m)
    (h : ∀ w' b, St X w0 m0 w' (.row e size (.slice (some ⟨b, 0, none⟩) 0 0) 0 [] :: es) m → wpListIn F fu P ops Q rest (a.put dst (.slice (some ⟨b, 0, none⟩) 0 0)) w') : Li F fu P ops Q (⟨dst, .buildSlice t 0 #[], rt, pos, af, none⟩ :: rest) a w := ⟨(
  li_plain .lit rfl fun K hK => op_lit0 hS hE rfl fun w' b hw => hK _ _ (h w' b hw))⟩
theorem ki_box {ty : TypeId} {y : Operand} (hS : St X w0 m0 w es m) {cs : List Value} (hs : BoxS a y cs) (h : ∀ w' b, St X w0 m0 w' (.box b cs :: es) m → wpListIn F fu Try.prog ops Q rest (a.put dst (.pointer (some ⟨b, 0, none⟩))) w') :
    Li F fu Try.prog ops Q (⟨dst, .box ty y, rt, pos, af, none⟩ :: rest) a w := by
  obtain ⟨hy, hc⟩ := hs; exact li_box hS hy hc h
theorem ki_alloc {ty : TypeId} (hS : St X w0 m0 w es m) {cs : List Value} (hs : AllocS ty cs) (h : ∀ w' b, St X w0 m0 w' (.box b cs :: es) m → wpListIn F fu Try.prog ops Q rest (a.put dst (.pointer (some ⟨b, 0, none⟩))) w') :
    Li F fu Try.prog ops Q (⟨dst, .alloc ty, rt, pos, af, none⟩ :: rest) a w := by
  obtain ⟨hz⟩ := hs; exact li_alloc hS _ cs hz.1 hz.2 h
theorem ki_load {ty : TypeId} {x : Operand} (hS : St X w0 m0 w es m) {v : Value} (hs : LoadS es m a ty x v) (h : wpListIn F fu Try.prog ops Q rest (a.put dst v) w) : Li F fu Try.prog ops Q (⟨dst, .load ty x, rt, pos, af, none⟩ :: rest) a w := by
  obtain ⟨⟨d, hu, hd, _⟩, hx, hv⟩ := hs; exact li_load hS hu hd hx hv h
theorem ki_loads {ty : TypeId} {x : Operand} (hS : St X w0 m0 w es m) {vs : List Value} (hs : LoadsS es m a ty x vs) (h : wpListIn F fu Try.prog ops Q rest (a.put dst (.agg vs.toArray)) w) : Li F fu Try.prog ops Q (⟨dst, .load ty x, rt, pos, af, none⟩ :: rest) a w := by
  obtain ⟨hn, hx, hv⟩ := hs; exact li_loads hS hn hx hv h
theorem ki_store {ty : TypeId} {x y : Operand} (hS : St X w0 m0 w es m) {es' : List Ent} (hs : StoreS es a ty x y es') (h : ∀ w', St X w0 m0 w' es' m → wpListIn F fu Try.prog ops Q rest (a.put dst undef) w') :
    Li F fu Try.prog ops Q (⟨dst, .store ty x y, rt, pos, af, none⟩ :: rest) a w := by
  obtain ⟨hn, hx, hy, h1, hM, hs, hU⟩ := hs; exact li_store hS hn hx hy h1 hM hs hU h
theorem ki_storeR {ty : TypeId} {x y : Operand} (hS : St X w0 m0 w es m) {es' : List Ent} (hs : StoreRS es a ty x y es') (h : ∀ w', St X w0 m0 w' es' m → wpListIn F fu Try.prog ops Q rest (a.put dst undef) w') :
    Li F fu Try.prog ops Q (⟨dst, .store ty x y, rt, pos, af, none⟩ :: rest) a w := by
  obtain ⟨hn, hx, hy, h1, hi, hl, he⟩ := hs; subst he; exact li_storeR hS hn hx hy h1 hi hl h
theorem ki_stores {ty : TypeId} {x y : Operand} (hS : St X w0 m0 w es m) {es' : List Ent} (hs : StoresS es a ty x y es') (h : ∀ w', St X w0 m0 w' es' m → wpListIn F fu Try.prog ops Q rest (a.put dst undef) w') :
    Li F fu Try.prog ops Q (⟨dst, .store ty x y, rt, pos, af, none⟩ :: rest) a w := by
  obtain ⟨hn, hx, hy, hl, h1, hM, hs, hU⟩ := hs; exact li_stores hS hn hx hy hl h1 hM hs hU h
end Go.Proofs.Ytlkdjmpkapeppaa
/- slices.Values and AppendSeq at hits. -/
namespace Go.Proofs.Ytlkdjmpkapeppaa
set_option linter.unusedVariables false
set_option linter.unusedSimpArgs false
open Go.RowKit Go.Shelf
attribute [local go_sem] Oper.semAt_some
theorem Below.inMem {n : Nat} {w W : World} {m : Mem} (h : Below w.heap.size w W) (hm : m.In w) : m.In W := fun a v hv => cell_below h (hm a v hv)
set_option maxRecDepth 100000 in
set_option maxHeartbeats 4000000 in
theorem values1_in (F : Fence) (n : Nat) (h61 : F.fn 61) (hro : F.round = none) (hn : 1 ≤ n) (l : Nat) (m : Mem) (w : World) (hm : m.In w) (Bs : Nat) (q : Option Addr) (c : Nat) (xs : List Hit) (hr : hitL.list.rd m [.slice q xs.length c] xs) (hb : m ⟨Bs, 0, none⟩ = some (.slice q xs.length c))
    (J Jx : List Hit → World → Prop) (W : World) (hW : Below w.heap.size w W) (hJ : AbidesFrom W.heap.size J) (hJx : AbidesFrom W.heap.size Jx)
    (hY : ∀ pre x W1, J pre W1 → pre.length < xs.length → YieldAt F (n - 1) Try.prog l #[hitA x] W1 fun e W' => (e = .returned (.bool true) ∧ J (pre ++ [x]) W' ∧ Below w.heap.size W1 W') ∨ (e = .returned (.bool false) ∧ Jx (pre ++ [x]) W')) (h0 : J [] W) :
    CallsIn F n Try.prog 61 #[.func (.yield l) #[] #[], .pointer (some ⟨Bs, 0, none⟩)] W fun e W' => (∃ v, e = .returned v) ∧ ((∃ ys, ys = xs ∧ J ys W') ∨ (∃ pre, pre <+: xs ∧ Jx pre W')) := by
  obtain ⟨q', c', e, h1, h2, h3, hrow⟩ := Lay.list_open hr
  cases e
  have hl : xs.length ≤ 9223372036854775807 := by simp only [maxLen] at h2; omega
  have HR := Lib.hid hrow
  have HB := Lib.hid hb
  have hmW := Below.inMem (n := n) hW hm
  have hS := St.start hmW
  have HY := Lib.hid hY
  have HJ := Lib.hid hJ
  clear hr h1 h2 h3 hrow hY hJ hJx
  refine callsIn_of_wp Try.func61 rfl h61 ?_ hro
  simp only [Try.ntmps61, List.size_toArray, List.length_cons, List.length_nil, Nat.reduceAdd, Nat.reduceSub, Array.replicate_succ, Array.replicate_zero, List.push_toArray, List.append_toArray, List.nil_append, List.cons_append]
  gi_wp2_with (first 
    | ((with_reducible refine' Li.out ?_; apply ki_alloc hS); (· exact .mk); clear hS; intro _ _ hS)
    | ((with_reducible refine' Li.out ?_; apply ki_load hS); (· exact .mk))
    | ((with_reducible refine' Li.out ?_; apply ki_loads hS); (· exact .mk))
    | ((with_reducible refine' Li.out ?_; apply ki_stores hS); (· exact .mk); clear hS; intro ws hS))
  clear hS hb
  gi_loopw [7] (fun i wr => ∃ k : Nat, k ≤ xs.length ∧ i = .int .i64 k ∧ J (xs.take k) wr ∧ Below w.heap.size W wr) (fun i _ => xs.length - (intOf i).toNat)
  case atStart => exact ⟨0, Nat.zero_le _, rfl, by simpa using h0, Below.refl _ _⟩
  case round =>
    obtain ⟨k, hk, rfl, hJs, hnx⟩ := hrel
    by_cases hlt : k < xs.length
    · have hk1 : (k : Int) < xs.length := by omega
      obtain ⟨b, o, cs, rfl, hcs, hcell⟩ := HR.out.get k hlt
      obtain ⟨rfl, i1, i2⟩ := hitL_open hcs
      have hcx : ∀ j v, [Value.int .i64 xs[k].dist, .int .i64 xs[k].id][j]? = some v → m ⟨b, o + k * 2 + j, none⟩ = some v := hcell
      have hS := St.start (Below.inMem (n := n) (hW.trans hnx) hm)
      have hN : Hid (xs.take (k + 1) = xs.take k ++ [xs[k]]) := List.take_succ_eq_append_getElem hlt
      clear hcs hcell
      generalize xs[k] = x at *
      gi_wp2_with (first 
    | ((with_reducible refine' Li.out ?_; apply ki_alloc hS); (· exact .mk); clear hS; intro _ _ hS)
    | ((with_reducible refine' Li.out ?_; apply ki_load hS); (· exact .mk))
    | ((with_reducible refine' Li.out ?_; apply ki_loads hS); (· exact .mk))
    | ((with_reducible refine' Li.out ?_; apply ki_stores hS); (· exact .mk); clear hS; intro ws hS))
      have hJ2 := HJ.out _ wr ws none hJs (grownBy_of_below hS.below) (fun r e => by cases e)
      obtain ⟨fn, tmps, assign, body, hy, hR⟩ := HY.out _ x ws hJ2 (by simp; omega)
      have hnx2 := (hnx.trans (hS.below.mono (Nat.le_trans hW.size hnx.size)))
      clear hS hJ2
      have hy' : (Instr.yield l #[Value.agg #[Value.int .i64 x.dist, Value.int .i64 x.id]]).run Try.prog ws = .ok (.round l fn tmps assign body) ws := hy
      rw [hy', Oper.uponIn_round]
      refine ⟨fun _ => hn, hR.mono ?_⟩
      rintro e W3 (⟨rfl, hJ3, hk3⟩ | ⟨rfl, hJx3⟩)
      · gi_wp2
        go_roundw
        case rel => exact ⟨k + 1, hlt, by go_num, by rw [hN.out]; exact hJ3, hnx2.trans hk3⟩
        case measure => simp [intOf]; omega
      · gi_wp2
        refine bodyPost_ret (results_none rfl _ _ _) rfl ?_
        exact ⟨⟨_, rfl⟩, .inr ⟨_, by rw [← hN.out]; exact List.take_prefix _ _, hJx3⟩⟩
    · obtain rfl : k = xs.length := by omega
      gi_wp2
      go_end0
      exact ⟨⟨_, rfl⟩, .inl ⟨_, by simp, hJs⟩⟩
theorem values_stops (F : Fence) (n : Nat) (h61 : F.fn 61) (hro : F.round = none) (hn : 1 ≤ n) (m : Mem) (w : World) (hm : m.In w) (Bs : Nat) (q : Option Addr) (c : Nat) (xs : List Hit) (hr : hitL.list.rd m [.slice q xs.length c] xs) (hb : m ⟨Bs, 0, none⟩ = some (.slice q xs.length c)) :
    SeqStopsK F n Try.prog 61 #[.pointer (some ⟨Bs, 0, none⟩)] (fun x : Hit => #[.agg #[.int .i64 x.dist, .int .i64 x.id]]) (Below w.heap.size) (fun ys => ys = xs) (fun pre => pre <+: xs) xs.length w := by
  intro l J Jx W hW hJ hJx hY h0
  have e : #[Value.func (.yield l) #[] #[]] ++ #[Value.pointer (some ⟨Bs, 0, none⟩)] = #[.func (.yield l) #[] #[], .pointer (some ⟨Bs, 0, none⟩)] := by simp
  rw [e]
  exact values1_in F n h61 hro hn l m w hm Bs q c xs hr hb J Jx W hW hJ hJx hY h0
end Go.Proofs.Ytlkdjmpkapeppaa
/- The state of a walk beside a range over a function. -/
namespace Go.Proofs.Ytlkdjmpkapeppaa
set_option linter.unusedVariables false
set_option linter.unusedSimpArgs false
open Go.RowKit
section
variable {X : List Nat} {w0 w w' : World} {m0 m : Mem} {es : List Ent}
def Ent.cellsy : Ent → Bool
  | .obj _ _ => false
  | _ => true
theorem Ent.ok.cells {x : Ent} (h : x.ok w) (hc : x.cellsy = true) : ∀ b, x.blk = some b → ∃ cur t fz, w.heap[b]? = some (.cells cur t fz) := by
  intro b hb
  cases x with
  | box b' cs => obtain ⟨t, ht⟩ := h; cases hb; exact ⟨_, _, _, ht⟩
  | row e size v n xs =>
    rcases h.2 with ⟨rfl, _⟩ | ⟨g, cap, cur, rfl, _, hg, _⟩
    · simp [Ent.blk, Value.ownBlock] at hb
    · simp [Ent.blk, Value.ownBlock] at hb; subst hb; exact ⟨_, _, _, hg⟩
  | obj b' p => cases hc
theorem cell_cells {a : Addr} {v : Value} (h : w.cell? a = some v) : ∃ cur t fz, w.heap[a.block]? = some (.cells cur t fz) := by
  unfold World.cell? at h
  split at h
  · rename_i hh; exact ⟨_, _, _, hh⟩
  · cases h
/-- What a loop over an iterator lays, and turns, of its own leaves it. -/
theorem St.abide {row : Option Nat} (hS : St [] w0 m0 w es m) (hes : es.all Ent.cellsy = true) (hg : w.grownBy w' row) (hr : ∀ r, row = some r → w0.heap.size ≤ r ∧ ∃ o : Obj, w.heap[r]? = some o ∧ o.isCells = false) : St [] w0 m0 w' es m := by
  have hne : ∀ b cur t fz, w.heap[b]? = some (.cells cur t fz) → some b ≠ row := fun b cur t fz h e => by
    obtain ⟨_, o, h1, h2⟩ := hr b e.symm
    rw [h] at h1
    cases h1
    cases h2
  refine ⟨hS.kept.grown hg fun b hb => .inl (hr b hb).1, fun x hx => ⟨?_, (hS.has x hx).2⟩, hS.apart, fun a v hv => ?_, hS.le, hS.new⟩
  · refine Ent.ok.same (hS.has x hx).1 fun b hb => ?_
    obtain ⟨cur, t, fz, hc⟩ := (hS.has x hx).1.cells (List.all_eq_true.1 hes x hx) b hb
    exact hg.block b ((hS.has x hx).1.lt b hb) (hne b cur t fz hc)
  · obtain ⟨h1, h2⟩ := hS.know a v hv
    obtain ⟨cur, t, fz, hc⟩ := cell_cells h1
    exact ⟨(World.cell?_of_block (hg.block _ (World.block_lt_of_cell? w a h1) (hne _ cur t fz hc))).trans h1, h2⟩
theorem Kept.from (h : Kept X w w') (hX : ∀ b ∈ X, ∃ cur t fz, w.heap[b]? = some (.cells cur t fz)) (B : Nat) : KeepsFrom B w w' :=
  ⟨h.size, fun k o _ hk ho => (h.block k (Array.getElem?_eq_some_iff.1 hk).1 fun hm => by
    obtain ⟨cur, t, fz, hc⟩ := hX k hm
    rw [hc] at hk
    cases hk
    cases ho).trans hk⟩
theorem Kept.belowOf {n : Nat} (h : Kept X w w') (hX : ∀ b ∈ X, n ≤ b) (hn : n ≤ w.heap.size) : Below n w w' :=
  ⟨h.os, h.tape, h.output, h.size, fun k hk => h.block k (Nat.lt_of_lt_of_le hk hn) fun hm => by have := hX k hm; omega⟩
theorem St.lentCells (hS : St X w0 m0 w es m) (hes : es.all Ent.cellsy = true) : ∀ b ∈ es.filterMap Ent.blk, ∃ cur t fz, w.heap[b]? = some (.cells cur t fz) := fun b hb => by
  obtain ⟨x, hx, e⟩ : ∃ x ∈ es, x.blk = some b := by simpa using hb
  exact (hS.has x hx).1.cells (List.all_eq_true.1 hes x hx) b e
theorem BoxIn.eq {b : Nat} {cs ds : List Value} (h : BoxIn w b cs) (k : BoxIn w b ds) : cs = ds := by
  obtain ⟨t, h⟩ := h
  obtain ⟨u, k⟩ := k
  rw [h] at k
  simpa using congrArg (fun o : Option Obj => match o with | some (.cells c _ _) => c.toList | _ => []) k
theorem ownsRow_eq {B n size : Nat} {e : TypeId} {v : Value} {xs ys : List Value} (h : w.ownsRow B e size v n xs) (k : w.ownsRow B e size v n ys) : xs = ys := by
  rcases h.2 with ⟨e1, h0⟩ | ⟨g, cap, cur, e1, _, hg, _, _, _, ht⟩
  · have h1 := h.1; have k1 := k.1
    subst h0
    simp at h1 k1
    rw [h1, k1]
  · rcases k.2 with ⟨e2, _⟩ | ⟨g', cap', cur', e2, _, hg', _, _, _, ht'⟩
    · rw [e1] at e2; cases e2
    · rw [e1] at e2
      cases e2
      rw [hg] at hg'
      cases hg'
      rw [← ht, ht']
end
end Go.Proofs.Ytlkdjmpkapeppaa
/- slices.AppendSeq, Collect over slices.Values at hits. -/
namespace Go.Proofs.Ytlkdjmpkapeppaa
set_option linter.unusedVariables false
set_option linter.unusedSimpArgs false
open Go.RowKit Go.Shelf
attribute [local go_sem] Oper.semAt_some
abbrev seqH (b : Nat) : Value := .func (.func 61) #[] #[.pointer (some ⟨b, 0, none⟩)]
set_option maxRecDepth 100000 in
set_option maxHeartbeats 4000000 in
theorem appendSeq_c (m : Mem) (w : World) (hm : m.In w) (Bs : Nat) (q : Option Addr) (c : Nat) (xs : List Hit) (hr : hitL.list.rd m [.slice q xs.length c] xs) (hb : m ⟨Bs, 0, none⟩ = some (.slice q xs.length c)) :
    Calls Try.prog 71 #[.slice none 0 0, seqH Bs] w fun e w' => ∃ q' c', e = .returned (.slice q' xs.length c') ∧ St [] w m w' [rowQ q' c' xs.length (cellsH xs)] m := by
  have hbytes : xs.length * 16 ≤ 140737488355328 := by obtain ⟨_, _, _, _, _, h3, _⟩ := Lay.list_open hr; exact h3
  refine (callsIn_wide (n := 3)).1 ?_
  refine callsIn_of_wp_marks Try.func71 rfl trivial ?_ rfl
  simp only [Try.ntmps71, List.size_toArray, List.length_cons, List.length_nil, Nat.reduceAdd, Nat.reduceSub, Array.replicate_succ, Array.replicate_zero, List.push_toArray, List.append_toArray, List.nil_append, List.cons_append]
  have hS := St.start hm
  have HSEQ := Lib.hid (values_stops Fence.wide 2 trivial rfl (by decide) m w hm Bs q c xs hr hb)
  clear hr hb
  gi_wp2_with (first 
    | ((with_reducible refine' Li.out ?_; apply ki_box (ty := 24) (y := (.tmp 0)) hS); (· exact .mk); clear hS; intro w2 b2 hS)
    | ((with_reducible refine' Li.out ?_; apply ki_alloc hS); (· exact .mk); clear hS; intro _ _ hS)
    | ((with_reducible refine' Li.out ?_; apply ki_load hS); (· exact .mk))
    | ((with_reducible refine' Li.out ?_; apply ki_loads hS); (· exact .mk))
    | ((with_reducible refine' Li.out ?_; apply ki_store hS); (· exact .mk); clear hS; intro ws hS)
    | ((with_reducible refine' Li.out ?_; apply ki_stores hS); (· exact .mk); clear hS; intro ws hS))
  refine wpIn_rangeFunc_ownH (n := 3) rfl (by decide) rfl trivial (enters_of Try.func61 (by kernel_rfl) rfl) HSEQ.out belowK_t (belowK_b hS.kept.size) hS.below (fun _ => rfl)
    (fun pre W => ∃ q' c', St [] w m W [.box b2 [.slice q' pre.length c'], rowQ q' c' pre.length (cellsH pre)] m)
    (fun _ _ _ => False) ?hI ?hIx ⟨none, 0, (hS.nilRow _ _).front (x := .box b2 _) (by (repeat constructor))⟩
    (fun x a' W => ∃ Bx q' c' pre', St [] w m W [.box Bx [.int .i64 x.dist, .int .i64 x.id], .box b2 [.slice q' (List.length pre') c'], rowQ q' c' (List.length pre') (cellsH pre')] m ∧
      a' = { tmps := #[.slice none 0 0, seqH Bs, .pointer (some ⟨b2, 0, none⟩), undef, .slice none 0 0, .pointer (some ⟨Bx, 0, none⟩), seqH Bs, .agg #[.int .i64 x.dist, .int .i64 x.id], undef, undef, undef, undef, undef], defers := [] }) ?hAx ?assign ?body ?done ?stop
  case hI => exact fun s Y Z row ⟨q', c', h⟩ hg hrr => ⟨q', c', h.abide rfl hg fun r e => ⟨Nat.le_trans hS.kept.size (hrr r e).1, (hrr r e).2⟩⟩
  case hIx => exact fun _ _ _ _ _ h => h.elim
  case hAx => exact fun x a' _ Y Z row ⟨Bx, q', c', pre', h, e⟩ hg hrr => ⟨Bx, q', c', pre', h.abide rfl hg fun r e => ⟨Nat.le_trans hS.kept.size (hrr r e).1, (hrr r e).2⟩, e⟩
  case assign =>
    rintro l pre x W K ⟨q', c', hI⟩ hK
    have hsz := hS.kept.size
    have hS2 := hS
    clear hS
    have hS := St.start (World.mem_in W)
    conv in (Array.foldl _ _ _) => simp
    gi_wp2_with (first 
    | ((with_reducible refine' Li.out ?_; apply ki_box (ty := 24) (y := (.tmp 0)) hS); (· exact .mk); clear hS; intro w2 b2 hS)
    | ((with_reducible refine' Li.out ?_; apply ki_alloc hS); (· exact .mk); clear hS; intro _ _ hS)
    | ((with_reducible refine' Li.out ?_; apply ki_load hS); (· exact .mk))
    | ((with_reducible refine' Li.out ?_; apply ki_loads hS); (· exact .mk))
    | ((with_reducible refine' Li.out ?_; apply ki_store hS); (· exact .mk); clear hS; intro ws hS)
    | ((with_reducible refine' Li.out ?_; apply ki_stores hS); (· exact .mk); clear hS; intro ws hS))
    refine hK _ _ (hS.kept.from (by simp) _) (hS.below.mono hI.kept.size) ⟨q', c', hI.grow (grownBy_of_below hS.below)⟩ ⟨_, q', c', pre, hI.add _ (grownBy_of_below hS.below) (hS.box 0 rfl) (fun b hb => ?_), by simp [Act.put]⟩
    cases hb
    simpa using (hS.has _ (List.mem_cons_self)).2 _ rfl
  case body =>
    rintro l pre x a' W hl ⟨r, hrl⟩ ⟨q1, c1, hI⟩ ⟨Bx, q', c', pre', hA, rfl⟩ hlt
    have h1 := BoxIn.eq (hI.box 0 rfl) (hA.box 1 rfl)
    simp only [List.cons.injEq, Value.slice.injEq, and_true] at h1
    obtain ⟨rfl, hl1, rfl⟩ := h1
    have hlen := Lib.hid hl1
    rw [← hl1] at hA
    have h2 := Lib.hid (ownsRow_eq (hI.row 1 rfl) (hA.row 2 rfl))
    rw [← h2.out] at hA
    have hlt' : (pre.length + 1) * 16 ≤ 140737488355328 := by omega
    clear hl1 hlen h2 hI hrl
    have hA2 : St [] w m W ([.box Bx [.int .i64 x.dist, .int .i64 x.id], .box b2 [.slice q1 pre.length c1], rowQ q1 c1 pre.length (cellsH pre)] ++ []) m := hA
    have hge := St.subGe hA2
    have hlc := St.lentCells hA rfl
    have hsz := hS.kept.size
    have hwW := hA.kept.size
    clear hS
    have hS := St.sub hA2
    gi_wp2_with (first 
    | ((with_reducible refine' Li.out ?_; apply ki_box (ty := 24) (y := (.tmp 0)) hS); (· exact .mk); clear hS; intro w2 b2 hS)
    | ((with_reducible refine' Li.out ?_; apply ki_alloc hS); (· exact .mk); clear hS; intro _ _ hS)
    | ((with_reducible refine' Li.out ?_; apply ki_load hS); (· exact .mk))
    | ((with_reducible refine' Li.out ?_; apply ki_loads hS); (· exact .mk))
    | ((with_reducible refine' Li.out ?_; apply ki_store hS); (· exact .mk); clear hS; intro ws hS)
    | ((with_reducible refine' Li.out ?_; apply ki_stores hS); (· exact .mk); clear hS; intro ws hS)
      | ((with_reducible refine' Li.out ?_; apply li_lit el_hit (cs := [.int .i64 x.dist, .int .i64 x.id]) hS); (· decide); (· decide); (· kernel_rfl); clear hS; intro w10 b10 hS)
      | ((with_reducible refine' Li.out ?_; apply li_appendB el_hit hS (by decide)); (· exact rfl); (· (repeat constructor)); (· exact rfl); (· (repeat constructor)); (· rfl); (· simp [Value.oneCell']); (· omega); clear hS; intro w11 q11 c11 hS))
    have hL := St.lendL hA2 hS
    refine ⟨hS.kept.from hlc _, hS.kept.belowOf hge hwW, q11, c11, ?_⟩
    rw [cellsH_snoc] at hL
    simp only [List.cons_append, List.nil_append, List.length_append, List.length_cons, List.length_nil] at hL ⊢
    exact ((hL.forget (x := .box b10 _) (by (repeat constructor))).forget (x := .box Bx _) (by (repeat constructor)))
  case done =>
    rintro D ys W hD rfl ⟨q', c', hI⟩ hK
    have hsz := hS.kept.size
    clear hS
    have hS := hI
    gi_wp2_with (first 
    | ((with_reducible refine' Li.out ?_; apply ki_box (ty := 24) (y := (.tmp 0)) hS); (· exact .mk); clear hS; intro w2 b2 hS)
    | ((with_reducible refine' Li.out ?_; apply ki_alloc hS); (· exact .mk); clear hS; intro _ _ hS)
    | ((with_reducible refine' Li.out ?_; apply ki_load hS); (· exact .mk))
    | ((with_reducible refine' Li.out ?_; apply ki_loads hS); (· exact .mk))
    | ((with_reducible refine' Li.out ?_; apply ki_store hS); (· exact .mk); clear hS; intro ws hS)
    | ((with_reducible refine' Li.out ?_; apply ki_stores hS); (· exact .mk); clear hS; intro ws hS))
    refine ⟨by simp, .inl ⟨_, _, rfl, run_takeDeferred hK, ?_⟩⟩
    exact ⟨_, results_tmp rfl _ _ _, q', c', rfl, (hS.abide (row := some D) rfl (grownBy_putObj' W D _) fun r e => by cases e; exact ⟨Nat.le_trans hsz hD, _, hK, rfl⟩).drop _ (List.sublist_cons_self _ _)⟩
  case stop => exact fun D cd pre W _ _ h _ => h.elim
end Go.Proofs.Ytlkdjmpkapeppaa
/- Walks of which the world behind is known to be the old one, with draws, and blocks behind it. -/
namespace Go.Proofs.Ytlkdjmpkapeppaa
set_option linter.unusedVariables false
set_option linter.unusedSimpArgs false
open Go.RowKit Go.Sort
variable {P : Program} {ops : Array Oper} {X : List Nat} {w0 w : World} {m0 m : Mem} {es : List Ent} {o : Oper} {a : Act} {K : Act → World → Prop} {Q : Exit → Act → World → Prop}
variable {rest : List Oper} {dst : Option Tmp} {rt : TypeId} {pos : String} {af : Array Edge} {E : Prop} {g : Nat × Bool}
def Ex (w w' : World) : Prop := ∃ q os, w' = grow (w.drewN q) os
theorem Ex.refl (w : World) : Ex w w := ⟨0, #[], by rw [grow_empty]; rfl⟩
theorem Ex.trans {a b c : World} (h : Ex a b) (k : Ex b c) : Ex a c := by
  obtain ⟨q, os, rfl⟩ := h
  obtain ⟨p, ot, rfl⟩ := k
  exact ⟨q + p, os ++ ot, by show grow (grow ((a.drewN q).drewN p) os) ot = _; rw [grow_grow, World.drewN_drewN]⟩
theorem Ex.drew (w : World) : Ex w w.drew := ⟨1, #[], by rw [grow_empty]; rfl⟩
theorem Ex.alloc (w : World) (o : Obj) : Ex w (w.alloc o) := ⟨0, #[o], alloc_eq_grow w o⟩
theorem wl_box_x {ty : TypeId} {y : Operand} (hS : St X w0 m0 w es m) {cs : List Value} (hs : BoxS a y cs) (h : ∀ w' b, Ex w w' → St X w0 m0 w' (.box b cs :: es) m → wpList P ops Q rest (a.put dst (.pointer (some ⟨b, 0, none⟩))) w') :
    Wl P ops Q (⟨dst, .box ty y, rt, pos, af, none⟩ :: rest) a w := by
  obtain ⟨hy, hc⟩ := hs
  refine ⟨wpList_plain rfl fun K hK => ?_⟩
  subst hy
  have hrun : (Instr.box ty (a.eval y)).run P w = .ok (.pointer (some ⟨w.heap.size, 0, none⟩)) (w.alloc (.cells cs.toArray ty)) := by
    simp [Instr.box, newVar, newRow, hc, newObj, Sem.run_bind, Sem.run, ← World.alloc_eq]
  unfold Oper.wp execOp
  simp only [Sem.run_bind, hrun, Result.andThen_ok, Sem.run_pure]
  exact hK _ _ (h _ _ (Ex.alloc _ _) (hS.box_new cs ty))
theorem s_lit_x {t e : TypeId} {size bytes : Nat} {z : Value} (hE : Elem P t e size bytes z) {len : Nat} {parts : Array (Nat × Operand)} (hS : St X w0 m0 w es m) {cs : List Value} (hlen : len * size ≤ 16777216) (hpos : len * size ≠ 0)
    (hf : Instr.fill (fun i => some (i * size, size)) ((Array.range (len * size)).map (z.cells[· % z.cells.size]!)) (parts.map fun (i, x) => (i, a.eval x)).toList = some cs.toArray)
    (h : ∀ w' b, Ex w w' → St X w0 m0 w' (.box b cs :: es) m → K (a.put dst (.slice (some ⟨b, 0, none⟩) len len)) w') : if Region.wanted ⟨dst, .buildSlice t len parts, rt, pos, af, none⟩ (yielded ops a.tmps) = true then Oper.wp P ⟨dst, .buildSlice t len parts, rt, pos, af, none⟩ a w K Q else E := by
  refine step_of rfl ?_
  obtain ⟨ti, ht1, ht2, ht3, ht4⟩ := hE.at
  have hrun : (Instr.buildSlice t len (parts.map fun (i, x) => (i, a.eval x))).run P w = .ok (.slice (some ⟨w.heap.size, 0, none⟩) len len) (w.alloc (.cells cs.toArray e)) := by
    have hn : ¬ (16777216 < len * size) := by omega
    simp only [Instr.buildSlice, Sem.run_bind, run_underlying hE.under, Result.andThen_ok, sizeOf, typeInfo, zeroValue]
    have hf2 : Instr.fill (fun i => some (i * size, size)) (Array.map (fun x => z.cells[x % z.cells.size]!) (Array.range (len * size))) (List.map (fun x => (x.fst, a.eval x.snd)) parts.toList) = some cs.toArray := by simpa using hf
    simp [ht1, ht2, ht3, hn, hpos, newRow, newObj, Sem.run_bind, Sem.run, ← World.alloc_eq]
    rw [hf2]
    rfl
  unfold Oper.wp execOp
  simp only [Sem.run_bind, hrun, Result.andThen_ok, Sem.run_pure]
  exact h _ _ (Ex.alloc _ _) (hS.box_new cs e)
end Go.Proofs.Ytlkdjmpkapeppaa
