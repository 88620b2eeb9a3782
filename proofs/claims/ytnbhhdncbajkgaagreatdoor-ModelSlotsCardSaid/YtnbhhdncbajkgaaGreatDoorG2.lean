/- Contracts and plain laws that the laws' proofs use, laid together (part 2). -/
import Derived.Test.YtnbhhdncbajkgaaGreatDoorG1
import Derived.Laws.CopyRow
import Derived.Lib.SliceRun
import Derived.Lib.AppendZerosOnto
import Derived.Lib.Overlaps
import Derived.Test.YtnbhhdncbajkgaaGreatDoorShelf
/- Models: what is asked of one, in lists alone. -/
namespace Go.Proofs.YtnbhhdncbajkgaaGreatDoor
set_option linter.unusedVariables false
set_option linter.unusedSimpArgs false
open Go.RowKit Go.Shelf
structure It where
  id : Int
  v : List Int
deriving DecidableEq
structure Md where
  cap : Int
  dim : Int
  l : List It
deriving DecidableEq
structure Ak where
  kind : Int
  id : Int
  k : Int
  seed : Int
  v : List Int
structure Rp where
  e : Int
  v : List Int
  hits : List Hit
  n : Int
deriving DecidableEq
theorem It.ext' {a b : It} (h1 : a.id = b.id) (h2 : a.v = b.v) : a = b := by cases a; cases b; simp_all
def itz : It := ⟨0, []⟩
/-- Ids rise. -/
def Ris (l : List It) : Prop := l.Pairwise fun a b => a.id < b.id
/-- An id's vector. -/
def getM : List It → Int → Option (List Int)
  | [], _ => none
  | x :: l, z => if x.id = z then some x.v else getM l z
/-- With an id's vector. -/
def putL (z : Int) (v : List Int) : List It → List It
  | [] => [⟨z, v⟩]
  | x :: l => if x.id < z then x :: putL z v l else if x.id = z then ⟨z, v⟩ :: l else ⟨z, v⟩ :: x :: l
/-- Without an id. -/
def delL (z : Int) : List It → List It
  | [] => []
  | x :: l => if x.id = z then l else x :: delL z l
theorem getM_none {z : Int} : ∀ {l : List It}, getM l z = none ↔ ∀ x ∈ l, x.id ≠ z
  | [] => by simp [getM]
  | x :: l => by
    unfold getM
    split
    · rename_i h; simp [h]
    · rename_i h
      rw [getM_none]
      simp [h]
theorem getM_mem {z : Int} {v : List Int} : ∀ {l : List It}, getM l z = some v → (⟨z, v⟩ : It) ∈ l
  | [], h => by cases h
  | x :: l, h => by
    unfold getM at h
    split at h
    · rename_i e
      cases h; subst e; exact List.mem_cons_self
    · exact List.mem_cons_of_mem _ (getM_mem h)
theorem getM_of_mem {x : It} : ∀ {l : List It}, Ris l → x ∈ l → getM l x.id = some x.v
  | y :: l, hs, hm => by
    rcases List.mem_cons.1 hm with rfl | hm
    · unfold getM; rw [if_pos rfl]
    · have := (List.pairwise_cons.1 hs).1 x hm
      unfold getM
      rw [if_neg (by omega)]
      exact getM_of_mem (List.pairwise_cons.1 hs).2 hm
theorem put_mem {z : Int} {v : List Int} {x : It} : ∀ {l : List It}, x ∈ putL z v l → x ∈ l ∨ x = ⟨z, v⟩
  | [], h => .inr (by simpa [putL] using h)
  | y :: l, h => by
    unfold putL at h
    split at h
    · rcases List.mem_cons.1 h with rfl | h
      · exact .inl List.mem_cons_self
      · exact (put_mem h).imp (List.mem_cons_of_mem _) id
    · split at h
      · rcases List.mem_cons.1 h with h | h
        · exact .inr h
        · exact .inl (List.mem_cons_of_mem _ h)
      · rcases List.mem_cons.1 h with h | h
        · exact .inr h
        · exact .inl h
theorem del_mem {z : Int} {x : It} : ∀ {l : List It}, x ∈ delL z l → x ∈ l
  | [], h => h
  | y :: l, h => by
    unfold delL at h
    split at h
    · exact List.mem_cons_of_mem _ h
    · rcases List.mem_cons.1 h with rfl | h
      · exact List.mem_cons_self
      · exact List.mem_cons_of_mem _ (del_mem h)
theorem put_ris {z : Int} {v : List Int} : ∀ {l : List It}, Ris l → Ris (putL z v l)
  | [], _ => by unfold putL; exact List.pairwise_singleton _ _
  | y :: l, h => by
    obtain ⟨h1, h2⟩ := List.pairwise_cons.1 h
    unfold putL
    split
    · rename_i hlt
      exact List.pairwise_cons.2 ⟨fun x hx => (put_mem hx).elim (h1 x) fun e => by rw [e]; exact hlt, put_ris h2⟩
    · split
      · rename_i e
        exact List.pairwise_cons.2 ⟨fun x hx => by have := h1 x hx; show z < _; omega, h2⟩
      · rename_i h3 h4
        exact List.pairwise_cons.2 ⟨fun x hx => by
          show z < _
          rcases List.mem_cons.1 hx with rfl | hx
          · omega
          · have := h1 x hx; omega, h⟩
theorem del_ris {z : Int} : ∀ {l : List It}, Ris l → Ris (delL z l)
  | [], h => h
  | y :: l, h => by
    obtain ⟨h1, h2⟩ := List.pairwise_cons.1 h
    unfold delL
    split
    · exact h2
    · exact List.pairwise_cons.2 ⟨fun x hx => h1 x (del_mem hx), del_ris h2⟩
theorem get_put {z y : Int} {v : List Int} : ∀ {l : List It}, Ris l → getM (putL z v l) y = if y = z then some v else getM l y
  | [], _ => by
    unfold putL getM
    by_cases e : y = z
    · rw [if_pos e, if_pos e.symm]
    · rw [if_neg e, if_neg (Ne.symm e)]; rfl
  | x :: l, h => by
    obtain ⟨h1, h2⟩ := List.pairwise_cons.1 h
    unfold putL
    split
    · rename_i hlt
      show (if x.id = y then some x.v else getM (putL z v l) y) = _
      rw [get_put h2]
      show _ = if y = z then some v else if x.id = y then some x.v else getM l y
      by_cases e : y = z
      · rw [if_pos e, if_pos e, if_neg (by omega)]
      · rw [if_neg e, if_neg e]
    · split
      · rename_i e
        show (if z = y then some v else getM l y) = if y = z then some v else if x.id = y then some x.v else getM l y
        by_cases e2 : y = z
        · rw [if_pos e2, if_pos e2.symm]
        · rw [if_neg e2, if_neg (Ne.symm e2), if_neg (by omega)]
      · show (if z = y then some v else getM (x :: l) y) = _
        by_cases e2 : y = z
        · rw [if_pos e2, if_pos e2.symm]
        · rw [if_neg e2, if_neg (Ne.symm e2)]
theorem get_del {z y : Int} : ∀ {l : List It}, Ris l → getM (delL z l) y = if y = z then none else getM l y
  | [], _ => by simp [delL, getM]
  | x :: l, h => by
    obtain ⟨h1, h2⟩ := List.pairwise_cons.1 h
    unfold delL
    split
    · rename_i e
      show _ = if y = z then none else if x.id = y then some x.v else getM l y
      by_cases e2 : y = z
      · rw [if_pos e2]; exact getM_none.2 fun w hw => by have := h1 w hw; omega
      · rw [if_neg e2, if_neg (by omega)]
    · rename_i e
      show (if x.id = y then some x.v else getM (delL z l) y) = if y = z then none else if x.id = y then some x.v else getM l y
      rw [get_del h2]
      by_cases e2 : y = z
      · rw [if_pos e2, if_pos e2, if_neg (by omega)]
      · rw [if_neg e2, if_neg e2]
theorem ris_ext : ∀ {l r : List It}, Ris l → Ris r → (∀ z, getM l z = getM r z) → l = r
  | [], [], _, _, _ => rfl
  | [], y :: r, _, _, h => by have := h y.id; simp [getM] at this
  | x :: l, [], _, _, h => by have := h x.id; simp [getM] at this
  | x :: l, y :: r, hl, hr, h => by
    obtain ⟨l1, l2⟩ := List.pairwise_cons.1 hl
    obtain ⟨r1, r2⟩ := List.pairwise_cons.1 hr
    have e : x.id = y.id := by
      have a := getM_mem ((h x.id).symm.trans (show getM (x :: l) x.id = some x.v by unfold getM; rw [if_pos rfl]))
      have b := getM_mem ((h y.id).trans (show getM (y :: r) y.id = some y.v by unfold getM; rw [if_pos rfl]))
      rcases List.mem_cons.1 a with a | a
      · rw [← a]
      · rcases List.mem_cons.1 b with b | b
        · rw [← b]
        · have h1 := r1 _ a
          have h2 := l1 _ b
          simp only at h1 h2
          omega
    have ev : x.v = y.v := by
      have := h x.id
      unfold getM at this
      rw [if_pos rfl, if_pos e.symm] at this
      exact Option.some.inj this
    have exy := It.ext' e ev
    subst exy
    rw [ris_ext l2 r2 fun z => ?_]
    have hz := h z
    unfold getM at hz
    by_cases hxz : x.id = z
    · rw [getM_none.2 fun w hw => by have := l1 w hw; omega, getM_none.2 fun w hw => by have := r1 w hw; omega]
    · rw [if_neg hxz, if_neg hxz] at hz
      exact hz
theorem put_len {z : Int} {v : List Int} : ∀ {l : List It}, Ris l → (putL z v l).length = if (getM l z).isSome then l.length else l.length + 1
  | [], _ => by simp [putL, getM]
  | x :: l, h => by
    obtain ⟨h1, h2⟩ := List.pairwise_cons.1 h
    unfold putL getM
    split
    · rename_i hlt
      rw [if_neg (show ¬ x.id = z by omega), List.length_cons, put_len h2]
      split <;> simp
    · split
      · rename_i e; simp
      · rename_i h3 h4
        rw [show getM l z = none from getM_none.2 fun w hw => by have := h1 w hw; omega]
        simp
theorem del_len {z : Int} : ∀ {l : List It}, (delL z l).length = if (getM l z).isSome then l.length - 1 else l.length
  | [] => by simp [delL, getM]
  | x :: l => by
    have ih := del_len (z := z) (l := l)
    unfold delL getM
    split
    · simp
    · rw [List.length_cons, ih]
      split
      · rename_i hh
        have : 0 < l.length := by
          rcases Nat.eq_zero_or_pos l.length with h0 | h0
          · rw [List.eq_nil_of_length_eq_zero h0] at hh; simp [getM] at hh
          · exact h0
        simp; omega
      · simp
/-! ### Where an id is, or is to be -/
/-- i is where an id is, or is to be. -/
def PosM (l : List It) (z : Int) (i : Nat) : Prop := i ≤ l.length ∧ (∀ j, j < i → (l.getD j itz).id < z) ∧ ∀ j, i ≤ j → j < l.length → z ≤ (l.getD j itz).id
theorem pos_put {z : Int} {v : List Int} : ∀ {l : List It} {i : Nat}, Ris l → PosM l z i → putL z v l = (if i < l.length ∧ (l.getD i itz).id = z then l.set i ⟨z, v⟩ else l.take i ++ ⟨z, v⟩ :: l.drop i) ∧ delL z l = (if i < l.length ∧ (l.getD i itz).id = z then l.take i ++ l.drop (i + 1) else l) ∧
    getM l z = (if i < l.length ∧ (l.getD i itz).id = z then some (l.getD i itz).v else none)
  | [], i, _, hp => by
    have : i = 0 := by have := hp.1; simpa using this
    subst this
    simp [putL, delL, getM]
  | x :: l, 0, h, hp => by
    obtain ⟨h1, h2⟩ := List.pairwise_cons.1 h
    have h0 := hp.2.2 0 (Nat.le_refl _) (by simp)
    have h0' : z ≤ x.id := h0
    unfold putL delL getM
    rw [if_neg (by omega)]
    by_cases e : x.id = z
    · rw [if_pos e, if_pos e, if_pos e, if_pos ⟨by simp, e⟩, if_pos ⟨by simp, e⟩, if_pos ⟨by simp, e⟩]
      exact ⟨rfl, rfl, rfl⟩
    · have hn : ¬ (0 < (x :: l).length ∧ ((x :: l).getD 0 itz).id = z) := fun hh => e hh.2
      rw [if_neg e, if_neg e, if_neg e, if_neg hn, if_neg hn, if_neg hn]
      refine ⟨rfl, ?_, getM_none.2 fun w hw => by have := h1 w hw; omega⟩
      have : ∀ {l : List It}, (∀ w ∈ l, w.id ≠ z) → delL z l = l := fun {l} => by
        induction l with
        | nil => intro _; rfl
        | cons y l ih =>
          intro hh
          unfold delL
          rw [if_neg (hh y (by simp)), ih fun w hw => hh w (by simp [hw])]
      rw [this fun w hw => by have := h1 w hw; omega]
  | x :: l, i + 1, h, hp => by
    obtain ⟨h1, h2⟩ := List.pairwise_cons.1 h
    have h0 : x.id < z := hp.2.1 0 (by omega)
    have hp' : PosM l z i := ⟨by have := hp.1; simp at this; exact this, fun j hj => hp.2.1 (j + 1) (by omega), fun j hj hl => hp.2.2 (j + 1) (by omega) (by simp; exact hl)⟩
    obtain ⟨a1, a2, a3⟩ := pos_put (v := v) h2 hp'
    have hc : (i + 1 < (x :: l).length ∧ ((x :: l).getD (i + 1) itz).id = z) ↔ (i < l.length ∧ (l.getD i itz).id = z) := by simp
    unfold putL delL getM
    rw [if_pos h0, if_neg (show ¬ x.id = z by omega), if_neg (show ¬ x.id = z by omega), a1, a2, a3]
    by_cases hh : i < l.length ∧ (l.getD i itz).id = z
    · rw [if_pos hh, if_pos hh, if_pos hh, if_pos (hc.2 hh), if_pos (hc.2 hh), if_pos (hc.2 hh)]
      exact ⟨rfl, rfl, by simp⟩
    · rw [if_neg hh, if_neg hh, if_neg hh, if_neg fun k => hh (hc.1 k), if_neg fun k => hh (hc.1 k), if_neg fun k => hh (hc.1 k)]
      exact ⟨rfl, rfl, rfl⟩
/-! ### What may be -/
def okM (m : Md) : Prop := (1 ≤ m.cap ∧ m.cap ≤ 256) ∧ (1 ≤ m.dim ∧ m.dim ≤ 64) ∧ (m.l.length : Int) ≤ m.cap ∧ Ris m.l ∧ ∀ x ∈ m.l, 0 ≤ x.id ∧ x.id ≤ 2147483647 ∧ fitsV m.dim x.v
noncomputable instance (m : Md) : Decidable (okM m) := Classical.propDecidable _
noncomputable def chkM (m : Md) : Int := if okM m then 0 else 1
/-- What is asked may be, of models of such sizes. -/
def okA (a : Ak) (dim cap : Int) : Prop := ((1 ≤ dim ∧ dim ≤ 64) ∧ 1 ≤ cap ∧ cap ≤ 256) ∧ (1 ≤ a.kind ∧ a.kind ≤ 8) ∧
  (if a.kind ≤ 4 then 0 ≤ a.id ∧ a.id ≤ 2147483647 else a.id = 0) ∧ (if a.kind = 5 then 1 ≤ a.k ∧ a.k ≤ cap else a.k = 0) ∧ (if a.kind = 7 then 0 ≤ a.seed else a.seed = 0) ∧
  (if a.kind = 1 ∨ a.kind = 2 ∨ a.kind = 5 then (a.v.length : Int) = dim ∧ fineV a.v else a.v = [])
noncomputable instance (a : Ak) (d c : Int) : Decidable (okA a d c) := Classical.propDecidable _
noncomputable def chkA (a : Ak) (d c : Int) : Int := if okA a d c then 0 else 1
def rp0 : Rp := ⟨0, [], [], 0⟩
/-- What is done. -/
noncomputable def doR (m : Md) (a : Ak) : Rp :=
  if a.kind = 1 ∧ (getM m.l a.id).isSome = true then { rp0 with e := 6 }
  else if (a.kind = 1 ∨ a.kind = 2) ∧ (getM m.l a.id).isSome = false ∧ (m.l.length : Int) = m.cap then { rp0 with e := 7 }
  else if (a.kind = 3 ∨ a.kind = 4) ∧ (getM m.l a.id).isSome = false then { rp0 with e := 5 }
  else if a.kind = 4 then { rp0 with v := (getM m.l a.id).getD [] }
  else if a.kind = 5 then { rp0 with hits := near a.k.toNat (m.l.map fun x => ⟨dN x.v a.v, x.id⟩) }
  else if a.kind = 6 then { rp0 with n := m.l.length }
  else rp0
noncomputable def doL (m : Md) (a : Ak) : List It :=
  if (a.kind = 1 ∨ a.kind = 2) ∧ (doR m a).e = 0 then putL a.id a.v m.l
  else if a.kind = 3 ∧ (doR m a).e = 0 then delL a.id m.l
  else m.l
noncomputable def doM (m : Md) (a : Ak) : Md := if okM m ∧ okA a m.dim m.cap then ⟨m.cap, m.dim, doL m a⟩ else ⟨0, 0, []⟩
noncomputable def doP (m : Md) (a : Ak) : Rp := if okM m ∧ okA a m.dim m.cap then doR m a else rp0
noncomputable def doE (m : Md) (a : Ak) : Int := if okM m ∧ okA a m.dim m.cap then 0 else 1
end Go.Proofs.YtnbhhdncbajkgaaGreatDoor
/- Rows of the call's own, of any elements: cut, copied within, put together in place and anew, cleared behind their end. -/
namespace Go.Proofs.YtnbhhdncbajkgaaGreatDoor
set_option linter.unusedVariables false
set_option linter.unusedSimpArgs false
open Go.RowKit
variable {P : Program} {ops : Array Oper} {X : List Nat} {w0 w : World} {m0 m : Mem} {es : List Ent} {o : Oper} {a : Act} {K : Act → World → Prop} {Q : Exit → Act → World → Prop}
theorem ownsRow_cut {e : TypeId} {size g n c : Nat} {xs : List Value} (h : w.ownsRow 0 e size (.slice (some ⟨g, 0, none⟩) n c) n xs) (n' : Nat) (hn : n' ≤ c) :
    ∃ xs', w.ownsRow 0 e size (.slice (some ⟨g, 0, none⟩) n' c) n' xs' ∧ (n' ≤ n → xs' = xs.take (n' * size)) ∧ (n ≤ n' → xs'.take (n * size) = xs) := by
  rcases h.2 with ⟨e1, _⟩ | ⟨g', cap, cur, e1, hb, hg, h1, h2, h3, h4⟩
  · cases e1
  · cases e1
    have hl : cur.toList.length = c * size := by simpa using h3
    refine ⟨cur.toList.take (n' * size), ⟨by rw [List.length_take, hl, Nat.min_eq_left (Nat.mul_le_mul_right _ hn)], .inr ⟨g, c, cur, rfl, hb, hg, hn, h2, h3, rfl⟩⟩, fun hle => ?_, fun hle => ?_⟩
    · rw [← h4, List.take_take, Nat.min_eq_left (Nat.mul_le_mul_right _ hle)]
    · rw [List.take_take, Nat.min_eq_left (Nat.mul_le_mul_right _ hle), h4]
theorem grownBy_self (w : World) (r : Option Nat) : w.grownBy w r := ⟨rfl, rfl, rfl, Nat.le_refl _, fun _ _ _ => rfl⟩
/-- A row seen at another length. -/
theorem St.cut (hS : St X w0 m0 w es m) {e : TypeId} {size g n c : Nat} {xs : List Value} {f : Value → Nat → List Value → List Ent} (hi : RowAt es e size (.slice (some ⟨g, 0, none⟩) n c) n xs f) (n' : Nat) (hn : n' ≤ c) :
    ∃ xs', St X w0 m0 w (f (.slice (some ⟨g, 0, none⟩) n' c) n' xs') m ∧ (n' ≤ n → xs' = xs.take (n' * size)) ∧ (n ≤ n' → xs'.take (n * size) = xs) ∧ xs'.length = n' * size := by
  obtain ⟨i, hi1, hf⟩ := hi.at
  obtain ⟨xs', h1, h2, h3⟩ := ownsRow_cut (hS.row i hi1) n' hn
  exact ⟨xs', by rw [hf]; exact hS.set i _ _ hi1 (grownBy_self _ _) h1 (fun _ h => .inl h), h2, h3, h1.1⟩
theorem setRow_owns {e : TypeId} {size g n' c : Nat} {xs ys : List Value} {cur : Array Value} (hg : w.heap[g]? = some (.cells cur e (0, 0))) (hc : c ≤ maxLen) (hn : n' ≤ c) (hl : ys.length = c * size) (ht : ys.take (n' * size) = xs) :
    (w.setRow g ys.toArray).ownsRow 0 e size (.slice (some ⟨g, 0, none⟩) n' c) n' xs :=
  ⟨by rw [← ht, List.length_take, hl, Nat.min_eq_left (Nat.mul_le_mul_right _ hn)], .inr ⟨g, c, ys.toArray, rfl, Nat.zero_le _, setRow_heap w g cur _ e _ hg, hn, hc, by simpa using hl, by simpa using ht⟩⟩
theorem grownBy_setRow (w : World) (g : Nat) (cs : Array Value) : w.grownBy (w.setRow g cs) (some g) := ⟨rfl, rfl, rfl, by simp, fun k _ hk => setRow_other w g k _ (fun e => hk (by rw [e]))⟩
theorem op_appRoom (hS : St X w0 m0 w es m) {t e : TypeId} {size bytes : Nat} {z : Value} (hE : Elem P t e size bytes z) (s x : Operand) (ho : o.op = .call { callee := .builtin .append, args := #[s, x], argTypes := #[t, t] })
    {g n c k kc : Nat} {xs news : List Value} {p : Addr} {f : Value → Nat → List Value → List Ent} (hs : a.eval s = .slice (some ⟨g, 0, none⟩) n c) (hi : RowAt es e size (.slice (some ⟨g, 0, none⟩) n c) n xs f) (hx : a.eval x = .slice (some p) k kc) (hl : news.length = k * size)
    (hnews : ∀ j u, news[j]? = some u → w.cell? (p.add j) = some u) (h1 : ∀ u ∈ news, u.oneCell' = true) (hroom : n + k ≤ c)
    (h : ∀ w', St X w0 m0 w' (f (.slice (some ⟨g, 0, none⟩) (n + k) c) (n + k) (xs ++ news)) m → K (a.put o.dst (.slice (some ⟨g, 0, none⟩) (n + k) c)) w') : o.wp P a w K Q := by
  obtain ⟨ti, hi1, hi2, hi3, hi4⟩ := hE.at
  obtain ⟨i, hj, hf⟩ := hi.at
  have hown := hS.row i hj
  rcases hown.2 with ⟨e1, _⟩ | ⟨g', cap, cur, e1, hb, hg, k1, k2, k3, k4⟩
  · cases e1
  · cases e1
    subst hi3
    have hfit : n * ti.size + news.length ≤ cur.size := by rw [hl, k3, ← Nat.add_mul]; exact Nat.mul_le_mul_right _ hroom
    have hrun := run_append_room (P := P) w t o.type e ti hE.under hi1 g n c cur hg p k kc news hl hnews h1 hroom hfit
    have hcl : cur.toList.length = c * ti.size := by simpa using k3
    have hx0 : xs.length = n * ti.size := hown.1
    have hok := setRow_owns (w := w) (size := ti.size) (n' := n + k) (xs := xs ++ news) (ys := cur.toList.take (n * ti.size) ++ news ++ cur.toList.drop (n * ti.size + news.length)) hg k2 hroom (by
      rw [List.length_append, List.length_append, List.length_take, List.length_drop, hcl]; omega) (by
      rw [k4]; exact List.take_left' (by rw [List.length_append, hx0, hl, ← Nat.add_mul]))
    have hk := h _ (by
      rw [hf]
      exact hS.set i _ _ hj (grownBy_setRow _ _ _) hok (fun _ h => .inl h))
    unfold Oper.wp execOp
    simp only [ho, resolve, invoke, builtin, Sem.run_bind, Sem.run_pure, Result.andThen_ok, List.map_toArray, List.map_cons, List.map_nil, hs, hx, hrun]
    exact hk
theorem op_appGrow (hS : St X w0 m0 w es m) {t e : TypeId} {size bytes : Nat} {z : Value} (hE : Elem P t e size bytes z) (s x : Operand) (ho : o.op = .call { callee := .builtin .append, args := #[s, x], argTypes := #[t, t] })
    {g n c k kc j0 : Nat} {xs news : List Value} {p : Addr} {f : Value → Nat → List Value → List Ent} (hs : a.eval s = .slice (some ⟨g, 0, none⟩) j0 c) (hi : RowAt es e size (.slice (some ⟨g, 0, none⟩) n c) n xs f) (hj0 : j0 ≤ n) (hx : a.eval x = .slice (some p) k kc) (hl : news.length = k * size)
    (hnews : ∀ j u, news[j]? = some u → w.cell? (p.add j) = some u) (hroom : c < j0 + k) (h63 : j0 + k ≤ maxLen) (hbytes : (j0 + k) * bytes ≤ 140737488355328)
    (h : ∀ w' b c', j0 + k ≤ c' → c' ≤ maxLen → St X w0 m0 w' (.row e size (.slice (some ⟨b, 0, none⟩) (j0 + k) c') (j0 + k) (xs.take (j0 * size) ++ news) :: es) m → K (a.put o.dst (.slice (some ⟨b, 0, none⟩) (j0 + k) c')) w') : o.wp P a w K Q := by
  obtain ⟨ti, hi1, hi2, hi3, hi4⟩ := hE.at
  obtain ⟨i, hj, hf⟩ := hi.at
  have hown := hS.row i hj
  subst hi3 hi4
  have hx0 : xs.length = n * ti.size := hown.1
  have hlo : (xs.take (j0 * ti.size)).length = j0 * ti.size := by rw [List.length_take, hx0, Nat.min_eq_left (Nat.mul_le_mul_right _ hj0)]
  have holds : ∀ j u, (xs.take (j0 * ti.size))[j]? = some u → w.cell? ((⟨g, 0, none⟩ : Addr).add j) = some u := fun j u hu => by
    rw [List.getElem?_take] at hu
    split at hu
    · exact hown.cells (g := g) rfl j u hu
    · cases hu
  have hrun := run_append_grow (P := P) w t o.type e ti z hE.under hi1 hi2 ⟨g, 0, none⟩ j0 c (xs.take (j0 * ti.size)) hlo holds p k kc news hl hnews hroom (by simp only [maxLen] at h63; omega) (growslice_fits (by omega) hbytes)
  have hge := grownCap_ge w (j0 + k) c e
  have hle := grownCap_le_maxLen w (j0 + k) c e h63
  generalize grownCap w (j0 + k) c e = c' at *
  have hsz : ((xs.take (j0 * ti.size)).toArray ++ news.toArray ++ Builtin.zeroCells z.cells (c' - (j0 + k))).size = c' * ti.size := by
    simp only [Array.size_append, List.size_toArray, size_zeroCells, hlo, hl, hE.zsize]
    rw [← Nat.add_mul, ← Nat.add_mul]
    congr 1; omega
  have hok : (w.drew.alloc (.cells ((xs.take (j0 * ti.size)).toArray ++ news.toArray ++ Builtin.zeroCells z.cells (c' - (j0 + k))) e)).ownsRow 0 e ti.size (.slice (some ⟨w.heap.size, 0, none⟩) (j0 + k) c') (j0 + k) (xs.take (j0 * ti.size) ++ news) :=
    ⟨by rw [List.length_append, hlo, hl, Nat.add_mul], .inr ⟨w.heap.size, c', _, rfl, Nat.zero_le _, heap_alloc_new w.drew _, hge, hle, hsz, by
      rw [Array.toList_append, Array.toList_append]
      exact List.take_left' (by simp only [List.length_append, hlo, hl]; rw [Nat.add_mul])⟩⟩
  have hk := h _ w.heap.size c' hge hle (hS.add _ ((grownBy_drew w).trans (World.grownBy_alloc w.drew _ none)) hok (fun b hb => by simp [Ent.blk, Value.ownBlock] at hb; omega))
  unfold Oper.wp execOp
  simp only [ho, resolve, invoke, builtin, Sem.run_bind, Sem.run_pure, Result.andThen_ok, List.map_toArray, List.map_cons, List.map_nil, hs, hx, hrun]
  exact hk
/-- The same with zero values: 'append(s[:i], make(S, k)...)'. -/
theorem op_appGrowZ (hS : St X w0 m0 w es m) {t tn e : TypeId} {size bytes : Nat} {z : Value} (hE : Elem P t e size bytes z) {kn : IntKind} (htn : P.underlying tn = some (.int kn)) (s x : Operand) (ho : o.op = .call { callee := .builtin .append, args := #[s, x], argTypes := #[t, tn] })
    {g n c k j0 : Nat} {kq : IntKind} {xs : List Value} {f : Value → Nat → List Value → List Ent} (hs : a.eval s = .slice (some ⟨g, 0, none⟩) j0 c) (hi : RowAt es e size (.slice (some ⟨g, 0, none⟩) n c) n xs f) (hj0 : j0 ≤ n) (hx : a.eval x = .int kq k)
    (hk0 : 0 < k) (hroom : c < j0 + k) (h63 : j0 + k ≤ maxLen) (hbytes : (j0 + k) * bytes ≤ 140737488355328)
    (h : ∀ w' b c' zs, j0 + k ≤ c' → c' ≤ maxLen → zs.length = k * size → St X w0 m0 w' (.row e size (.slice (some ⟨b, 0, none⟩) (j0 + k) c') (j0 + k) (xs.take (j0 * size) ++ zs) :: es) m → K (a.put o.dst (.slice (some ⟨b, 0, none⟩) (j0 + k) c')) w') : o.wp P a w K Q := by
  obtain ⟨ti, hi1, hi2, hi3, hi4⟩ := hE.at
  obtain ⟨i, hj, hf⟩ := hi.at
  have hown := hS.row i hj
  subst hi3 hi4
  have hx0 : xs.length = n * ti.size := hown.1
  have hlo : (xs.take (j0 * ti.size)).length = j0 * ti.size := by rw [List.length_take, hx0, Nat.min_eq_left (Nat.mul_le_mul_right _ hj0)]
  have holds : ∀ j u, (xs.take (j0 * ti.size))[j]? = some u → w.drew.cell? ((⟨g, 0, none⟩ : Addr).add j) = some u := fun j u hu => by
    rw [List.getElem?_take] at hu
    split at hu
    · exact hown.cells (g := g) rfl j u hu
    · cases hu
  have hold := run_firstCells_some (P := P) w.drew ti.size j0 ⟨g, 0, none⟩ j0 c (xs.take (j0 * ti.size)) hlo holds
  have hb48 : k * ti.bytes ≤ 281474976710656 := Nat.le_trans (Nat.mul_le_mul_right _ (by omega)) (Nat.le_trans hbytes (by decide))
  have hrun := Lib.run_append_grow_zeros (P := P) w t tn o.type e ti z kq kn hE.under htn hi1 hi2 (some ⟨g, 0, none⟩) j0 c (xs.take (j0 * ti.size)) hold k hk0 hE.pos hroom (by simp only [maxLen] at h63; omega) hb48 (growslice_fits (by omega) hbytes)
  have hge := grownCap_ge w (j0 + k) c e
  have hle := grownCap_le_maxLen w (j0 + k) c e h63
  generalize grownCap w (j0 + k) c e = c' at *
  have hzl : (Builtin.zeroCells z.cells k).toList.length = k * ti.size := by rw [Array.length_toList, size_zeroCells, hE.zsize]
  have hsz : ((xs.take (j0 * ti.size)).toArray ++ Builtin.zeroCells z.cells k ++ Builtin.zeroCells z.cells (c' - (j0 + k))).size = c' * ti.size := by
    simp only [Array.size_append, List.size_toArray, size_zeroCells, hlo, hE.zsize]
    rw [← Nat.add_mul, ← Nat.add_mul]
    congr 1; omega
  have hok : (w.drew.alloc (.cells ((xs.take (j0 * ti.size)).toArray ++ Builtin.zeroCells z.cells k ++ Builtin.zeroCells z.cells (c' - (j0 + k))) e)).ownsRow 0 e ti.size (.slice (some ⟨w.heap.size, 0, none⟩) (j0 + k) c') (j0 + k) (xs.take (j0 * ti.size) ++ (Builtin.zeroCells z.cells k).toList) :=
    ⟨by rw [List.length_append, hlo, hzl, Nat.add_mul], .inr ⟨w.heap.size, c', _, rfl, Nat.zero_le _, heap_alloc_new w.drew _, hge, hle, hsz, by
      rw [Array.toList_append, Array.toList_append]
      exact List.take_left' (by simp only [List.length_append, hlo, hzl]; rw [Nat.add_mul])⟩⟩
  have hk := h _ w.heap.size c' _ hge hle hzl (hS.add _ ((grownBy_drew w).trans (World.grownBy_alloc w.drew _ none)) hok (fun b hb => by simp [Ent.blk, Value.ownBlock] at hb; omega))
  unfold Oper.wp execOp
  simp only [ho, resolve, invoke, builtin, Sem.run_bind, Sem.run_pure, Result.andThen_ok, List.map_toArray, List.map_cons, List.map_nil, hs, hx, hrun]
  exact hk
theorem run_copy_wide (w : World) (dT sT ty elem : TypeId) (i : TypeInfo) (hu : P.underlying dT = some (.slice elem)) (hi : P.info? elem = some i) (g o dLen dCap : Nat) (p : Addr) (sLen sCap : Nat) (cur : Array Value) (t : TypeId) (cs : List Value)
    (hg : w.heap[g]? = some (.cells cur t (0, 0))) (hn : cs.length = Nat.min sLen dLen * i.size)
    (hsrc : ∀ j v, cs[j]? = some v → w.cell? (p.add j) = some v) (hfit : o + cs.length ≤ cur.size) (h1 : ∀ v ∈ cs, v.oneCell' = true) :
    (Builtin.copy_ #[dT, sT] ty #[.slice (some ⟨g, o, none⟩) dLen dCap, .slice (some p) sLen sCap]).run P w =
      .ok (goInt (Nat.min sLen dLen)) (w.setRow g (cur.toList.take o ++ cs ++ cur.toList.drop (o + cs.length)).toArray) := by
  have hf := run_firstCells_some (P := P) w i.size (Nat.min sLen dLen) p sLen sCap cs hn hsrc
  have hst := run_storeCells_at P g o t cs 0 cur w hg (by simpa using hfit) h1
  simp only [Nat.add_zero] at hst
  simp [Builtin.copy_, run_underlying hu, Builtin.lenOf, sizeOf, typeInfo, hi, hf, hst]
theorem op_copyRow (hS : St X w0 m0 w es m) {t e : TypeId} {size bytes : Nat} {z : Value} (hE : Elem P t e size bytes z) (d s : Operand) (sT : TypeId) (ho : o.op = .call { callee := .builtin .copy, args := #[d, s], argTypes := #[t, sT] })
    {g off n c dLen dCap sLen sCap : Nat} {xs cs : List Value} {p : Addr} {f : Value → Nat → List Value → List Ent} (hd : a.eval d = .slice (some ⟨g, off, none⟩) dLen dCap) (hi : RowAt es e size (.slice (some ⟨g, 0, none⟩) n c) n xs f)
    (hs : a.eval s = .slice (some p) sLen sCap) (hn : cs.length = Nat.min sLen dLen * size) (hsrc : ∀ j v, cs[j]? = some v → w.cell? (p.add j) = some v) (h1 : ∀ v ∈ cs, v.oneCell' = true) (hfit : off + cs.length ≤ xs.length)
    (h : ∀ w', St X w0 m0 w' (f (.slice (some ⟨g, 0, none⟩) n c) n (xs.take off ++ cs ++ xs.drop (off + cs.length))) m → K (a.put o.dst (goInt (Nat.min sLen dLen))) w') : o.wp P a w K Q := by
  obtain ⟨ti, hi1, hi2, hi3, hi4⟩ := hE.at
  obtain ⟨i, hj, hf⟩ := hi.at
  have hown := hS.row i hj
  rcases hown.2 with ⟨e1, _⟩ | ⟨g', cap, cur, e1, hb, hg, k1, k2, k3, k4⟩
  · cases e1
  · cases e1
    subst hi3
    have hcl : cur.toList.length = c * ti.size := by simpa using k3
    have hx0 : xs.length = n * ti.size := hown.1
    have hle : n * ti.size ≤ c * ti.size := Nat.mul_le_mul_right _ k1
    have hrun := run_copy_wide (P := P) w t sT o.type e ti hE.under hi1 g off dLen dCap p sLen sCap cur e cs hg hn hsrc (by rw [k3]; omega) h1
    have hok := setRow_owns (w := w) (size := ti.size) (n' := n) (xs := xs.take off ++ cs ++ xs.drop (off + cs.length)) (ys := cur.toList.take off ++ cs ++ cur.toList.drop (off + cs.length)) hg k2 k1 (by
      rw [List.length_append, List.length_append, List.length_take, List.length_drop, hcl]; omega) (by
      rw [← k4, List.take_take, List.drop_take, Nat.min_eq_left (by omega)]
      have hlen : (cur.toList.take off ++ cs).length = off + cs.length := by rw [List.length_append, List.length_take, hcl, Nat.min_eq_left (by omega)]
      rw [List.take_append, List.take_of_length_le (by rw [hlen]; omega), hlen])
    have hk := h _ (by
      rw [hf]
      exact hS.set i _ _ hj (grownBy_setRow _ _ _) hok (fun _ h => .inl h))
    unfold Oper.wp execOp
    simp only [ho, resolve, invoke, builtin, Sem.run_bind, Sem.run_pure, Result.andThen_ok, List.map_toArray, List.map_cons, List.map_nil, hd, hs, hrun]
    exact hk
theorem op_clearRow (hS : St X w0 m0 w es m) {t e : TypeId} {size bytes : Nat} {z : Value} (hE : Elem P t e size bytes z) (hz1 : ∀ v ∈ z.cells, v.oneCell' = true) (s : Operand) (ho : o.op = .call { callee := .builtin .clear, args := #[s], argTypes := #[t] })
    {g off n c k kc : Nat} {xs : List Value} {f : Value → Nat → List Value → List Ent} (hs : a.eval s = .slice (some ⟨g, off, none⟩) k kc) (hi : RowAt es e size (.slice (some ⟨g, 0, none⟩) n c) n xs f) (hoff : n * size ≤ off) (hfit : off + k * size ≤ c * size)
    (h : ∀ w', St X w0 m0 w' (f (.slice (some ⟨g, 0, none⟩) n c) n xs) m → K (a.put o.dst (.tuple #[])) w') : o.wp P a w K Q := by
  obtain ⟨ti, hi1, hi2, hi3, hi4⟩ := hE.at
  obtain ⟨i, hj, hf⟩ := hi.at
  have hown := hS.row i hj
  rcases hown.2 with ⟨e1, _⟩ | ⟨g', cap, cur, e1, hb, hg, k1, k2, k3, k4⟩
  · cases e1
  · cases e1
    subst hi3
    have hcl : cur.toList.length = c * ti.size := by simpa using k3
    by_cases hk0 : k = 0
    · subst hk0
      have hrun : (Builtin.clear_ #[t] o.type #[.slice (some ⟨g, off, none⟩) 0 kc]).run P w = .ok (.tuple #[]) w := by
        simp [Builtin.clear_, run_underlying hE.under]
      have hk := h w (by rw [hf]; exact hS.set i _ _ hj (grownBy_self _ _) hown (fun _ h => .inl h))
      unfold Oper.wp execOp
      simp only [ho, resolve, invoke, builtin, Sem.run_bind, Sem.run_pure, Result.andThen_ok, List.map_toArray, List.map_cons, List.map_nil, hs, hrun]
      exact hk
    · have hzl : (Builtin.zeroCells z.cells k).toList.length = k * ti.size := by rw [Array.length_toList, size_zeroCells, hE.zsize]
      have hz2 : ∀ v ∈ (Builtin.zeroCells z.cells k).toList, v.oneCell' = true := fun v hv => by
        have hv2 : v ∈ Builtin.zeroCells z.cells k := by simpa using hv
        unfold Builtin.zeroCells at hv2
        obtain ⟨j, _, rfl⟩ := Array.mem_map.1 hv2
        have hpos := hE.pos
        have hzs := hE.zsize
        have hj2 : j % z.cells.size < z.cells.size := Nat.mod_lt _ (by omega)
        rw [getElem!_pos z.cells _ hj2]
        exact hz1 _ (by simp)
      have hst := run_storeCells_at P g off e (Builtin.zeroCells z.cells k).toList 0 cur w hg (by rw [hzl, k3]; omega) hz2
      simp only [Nat.add_zero] at hst
      have hrun : (Builtin.clear_ #[t] o.type #[.slice (some ⟨g, off, none⟩) k kc]).run P w = .ok (.tuple #[]) (w.setRow g (cur.toList.take off ++ (Builtin.zeroCells z.cells k).toList ++ cur.toList.drop (off + (Builtin.zeroCells z.cells k).toList.length)).toArray) := by
        obtain ⟨k', rfl⟩ : ∃ q, k = q + 1 := ⟨k - 1, by omega⟩
        have hzv : (zeroValue e).run P w = .ok z w := by simp [zeroValue, typeInfo, hi1, hi2]
        simp [Builtin.clear_, run_underlying hE.under, hzv, hst]
      have hok := setRow_owns (w := w) (size := ti.size) (n' := n) (xs := xs) (ys := cur.toList.take off ++ (Builtin.zeroCells z.cells k).toList ++ cur.toList.drop (off + (Builtin.zeroCells z.cells k).toList.length)) hg k2 k1 (by
        rw [List.length_append, List.length_append, List.length_take, List.length_drop, hcl, hzl]; omega) (by
        rw [List.append_assoc, List.take_append_of_le_length (by rw [List.length_take, hcl]; omega), List.take_take, Nat.min_eq_left hoff, k4])
      have hk := h _ (by
        rw [hf]
        exact hS.set i _ _ hj (grownBy_setRow _ _ _) hok (fun _ h => .inl h))
      unfold Oper.wp execOp
      simp only [ho, resolve, invoke, builtin, Sem.run_bind, Sem.run_pure, Result.andThen_ok, List.map_toArray, List.map_cons, List.map_nil, hs, hrun]
      exact hk
theorem ret_cell_tmp3 {fn : Func} {R : Ending → World → Prop} {a : Act} {p u u2 : Tmp} {ty : TypeId} {b n : Nat} {vs : List Value} (h : fn.results = #[.tmp u, .cell p ty, .tmp u2]) (hp : a.tmps.getD p undef = .pointer (some ⟨b, 0, none⟩)) (hS : St X w0 m0 w es m) (hM : Ent.box b vs ∈ es) (hl : vs.length = n)
    (hn : ∃ d, P.underlying ty = some d ∧ d.isRow = true ∧ (P.info? ty).map (·.size) = some n) (hd : a.defers = []) (hR : R (.returned (.tuple #[a.tmps.getD u undef, .agg vs.toArray, a.tmps.getD u2 undef])) w) : bodyPost P fn R .ret a w := by
  obtain ⟨d, h1, h2, h3⟩ := hn
  have hb : BoxIn w b vs := (hS.has _ hM).1
  have hrun := run_loadVar_mid (P := P) w b 0 ty vs d (fun j v hj => by rw [Nat.zero_add]; exact (hb.get j v hj).1) h1 h2 (by rw [hl]; exact h3)
  have hp' : a.tmps[p]?.getD undef = .pointer (some ⟨b, 0, none⟩) := by simpa using hp
  refine bodyPost_ret_by ?_ hd hR
  simp [results, h, hp', asAddr, hrun]
theorem flatten_cut {n : Nat} : ∀ (css : List (List Value)) (k : Nat), (∀ c ∈ css, c.length = n) → css.flatten.take (k * n) = (css.take k).flatten ∧ css.flatten.drop (k * n) = (css.drop k).flatten
  | [], k, _ => by simp
  | c :: css, 0, _ => by simp
  | c :: css, k + 1, h => by
    obtain ⟨h1, h2⟩ := flatten_cut css k fun x hx => h x (List.mem_cons_of_mem _ hx)
    have hc : c.length = n := h c List.mem_cons_self
    have e : (k + 1) * n = c.length + k * n := by rw [hc, Nat.add_mul]; omega
    rw [List.flatten_cons, e]
    refine ⟨?_, ?_⟩
    · rw [List.take_length_add_append, h1]; rfl
    · rw [List.drop_length_add_append, h2]; rfl
theorem CellsOf.cut {α : Type} {L : Lay α} {m : Mem} {cells : List Value} {xs : List α} (h : CellsOf L m cells xs) (k : Nat) : CellsOf L m (cells.take (k * L.n)) (xs.take k) ∧ CellsOf L m (cells.drop (k * L.n)) (xs.drop k) := by
  obtain ⟨css, rfl, h2, h3⟩ := h
  obtain ⟨e1, e2⟩ := flatten_cut css k (CellsOf.lens h2 h3)
  rw [e1, e2]
  refine ⟨⟨css.take k, rfl, by simp [h2], fun i cs x hc hx => ?_⟩, ⟨css.drop k, rfl, by simp [h2], fun i cs x hc hx => ?_⟩⟩
  · rw [List.getElem?_take] at hc hx
    split at hc
    · rename_i hlt
      rw [if_pos hlt] at hx
      exact h3 i cs x hc hx
    · cases hc
  · rw [List.getElem?_drop] at hc hx
    exact h3 _ cs x hc hx
section
variable {rest : List Oper} {dst : Option Tmp} {rt : TypeId} {pos : String} {af : Array Edge} {E : Prop} {t e : TypeId} {size bytes : Nat} {z : Value} {g n c k kc j0 off dLen dCap sLen sCap : Nat} {xs news cs : List Value} {p : Addr} {f : Value → Nat → List Value → List Ent} {s x d : Operand} {sT : TypeId}
theorem wl_appRoom (hS : St X w0 m0 w es m) (hE : Elem P t e size bytes z) (hs : a.eval s = .slice (some ⟨g, 0, none⟩) n c) (hi : RowAt es e size (.slice (some ⟨g, 0, none⟩) n c) n xs f) (hx : a.eval x = .slice (some p) k kc) (hl : news.length = k * size)
    (hnews : ∀ j u, news[j]? = some u → w.cell? (p.add j) = some u) (h1 : ∀ u ∈ news, u.oneCell' = true) (hroom : n + k ≤ c)
    (h : ∀ w', St X w0 m0 w' (f (.slice (some ⟨g, 0, none⟩) (n + k) c) (n + k) (xs ++ news)) m → wpList P ops Q rest (a.put dst (.slice (some ⟨g, 0, none⟩) (n + k) c)) w') : Wl P ops Q (⟨dst, .call { callee := .builtin .append, args := #[s, x], argTypes := #[t, t] }, rt, pos, af, none⟩ :: rest) a w :=
  ⟨wpList_plain rfl fun K hK => op_appRoom hS hE s x rfl hs hi hx hl hnews h1 hroom fun w' hw => hK _ _ (h w' hw)⟩
theorem s_appRoom (hS : St X w0 m0 w es m) (hE : Elem P t e size bytes z) (hs : a.eval s = .slice (some ⟨g, 0, none⟩) n c) (hi : RowAt es e size (.slice (some ⟨g, 0, none⟩) n c) n xs f) (hx : a.eval x = .slice (some p) k kc) (hl : news.length = k * size)
    (hnews : ∀ j u, news[j]? = some u → w.cell? (p.add j) = some u) (h1 : ∀ u ∈ news, u.oneCell' = true) (hroom : n + k ≤ c)
    (h : ∀ w', St X w0 m0 w' (f (.slice (some ⟨g, 0, none⟩) (n + k) c) (n + k) (xs ++ news)) m → K (a.put dst (.slice (some ⟨g, 0, none⟩) (n + k) c)) w') : if Region.wanted ⟨dst, .call { callee := .builtin .append, args := #[s, x], argTypes := #[t, t] }, rt, pos, af, none⟩ (yielded ops a.tmps) = true then Oper.wp P ⟨dst, .call { callee := .builtin .append, args := #[s, x], argTypes := #[t, t] }, rt, pos, af, none⟩ a w K Q else E :=
  step_of rfl (op_appRoom hS hE s x rfl hs hi hx hl hnews h1 hroom h)
theorem wl_appGrow (hS : St X w0 m0 w es m) (hE : Elem P t e size bytes z) (hs : a.eval s = .slice (some ⟨g, 0, none⟩) j0 c) (hi : RowAt es e size (.slice (some ⟨g, 0, none⟩) n c) n xs f) (hj0 : j0 ≤ n) (hx : a.eval x = .slice (some p) k kc) (hl : news.length = k * size)
    (hnews : ∀ j u, news[j]? = some u → w.cell? (p.add j) = some u) (hroom : c < j0 + k) (h63 : j0 + k ≤ maxLen) (hbytes : (j0 + k) * bytes ≤ 140737488355328)
    (h : ∀ w' b c', j0 + k ≤ c' → c' ≤ maxLen → St X w0 m0 w' (.row e size (.slice (some ⟨b, 0, none⟩) (j0 + k) c') (j0 + k) (xs.take (j0 * size) ++ news) :: es) m → wpList P ops Q rest (a.put dst (.slice (some ⟨b, 0, none⟩) (j0 + k) c')) w') : Wl P ops Q (⟨dst, .call { callee := .builtin .append, args := #[s, x], argTypes := #[t, t] }, rt, pos, af, none⟩ :: rest) a w :=
  ⟨wpList_plain rfl fun K hK => op_appGrow hS hE s x rfl hs hi hj0 hx hl hnews hroom h63 hbytes fun w' b c' h1 h2 hw => hK _ _ (h w' b c' h1 h2 hw)⟩
theorem wl_appGrowZ {tn : TypeId} {kn kq : IntKind} (hS : St X w0 m0 w es m) (hE : Elem P t e size bytes z) (htn : P.underlying tn = some (.int kn)) (hs : a.eval s = .slice (some ⟨g, 0, none⟩) j0 c) (hi : RowAt es e size (.slice (some ⟨g, 0, none⟩) n c) n xs f) (hj0 : j0 ≤ n) (hx : a.eval x = .int kq k)
    (hk0 : 0 < k) (hroom : c < j0 + k) (h63 : j0 + k ≤ maxLen) (hbytes : (j0 + k) * bytes ≤ 140737488355328)
    (h : ∀ w' b c' zs, j0 + k ≤ c' → c' ≤ maxLen → zs.length = k * size → St X w0 m0 w' (.row e size (.slice (some ⟨b, 0, none⟩) (j0 + k) c') (j0 + k) (xs.take (j0 * size) ++ zs) :: es) m → wpList P ops Q rest (a.put dst (.slice (some ⟨b, 0, none⟩) (j0 + k) c')) w') : Wl P ops Q (⟨dst, .call { callee := .builtin .append, args := #[s, x], argTypes := #[t, tn] }, rt, pos, af, none⟩ :: rest) a w :=
  ⟨wpList_plain rfl fun K hK => op_appGrowZ hS hE htn s x rfl hs hi hj0 hx hk0 hroom h63 hbytes fun w' b c' zs h1 h2 h3 hw => hK _ _ (h w' b c' zs h1 h2 h3 hw)⟩
theorem wl_copyRow (hS : St X w0 m0 w es m) (hE : Elem P t e size bytes z) (hd : a.eval d = .slice (some ⟨g, off, none⟩) dLen dCap) (hi : RowAt es e size (.slice (some ⟨g, 0, none⟩) n c) n xs f)
    (hs : a.eval s = .slice (some p) sLen sCap) (hn : cs.length = Nat.min sLen dLen * size) (hsrc : ∀ j v, cs[j]? = some v → w.cell? (p.add j) = some v) (h1 : ∀ v ∈ cs, v.oneCell' = true) (hfit : off + cs.length ≤ xs.length)
    (h : ∀ w', St X w0 m0 w' (f (.slice (some ⟨g, 0, none⟩) n c) n (xs.take off ++ cs ++ xs.drop (off + cs.length))) m → wpList P ops Q rest (a.put dst (goInt (Nat.min sLen dLen))) w') : Wl P ops Q (⟨dst, .call { callee := .builtin .copy, args := #[d, s], argTypes := #[t, sT] }, rt, pos, af, none⟩ :: rest) a w :=
  ⟨wpList_plain rfl fun K hK => op_copyRow hS hE d s sT rfl hd hi hs hn hsrc h1 hfit fun w' hw => hK _ _ (h w' hw)⟩
theorem s_copyRow (hS : St X w0 m0 w es m) (hE : Elem P t e size bytes z) (hd : a.eval d = .slice (some ⟨g, off, none⟩) dLen dCap) (hi : RowAt es e size (.slice (some ⟨g, 0, none⟩) n c) n xs f)
    (hs : a.eval s = .slice (some p) sLen sCap) (hn : cs.length = Nat.min sLen dLen * size) (hsrc : ∀ j v, cs[j]? = some v → w.cell? (p.add j) = some v) (h1 : ∀ v ∈ cs, v.oneCell' = true) (hfit : off + cs.length ≤ xs.length)
    (h : ∀ w', St X w0 m0 w' (f (.slice (some ⟨g, 0, none⟩) n c) n (xs.take off ++ cs ++ xs.drop (off + cs.length))) m → K (a.put dst (goInt (Nat.min sLen dLen))) w') : if Region.wanted ⟨dst, .call { callee := .builtin .copy, args := #[d, s], argTypes := #[t, sT] }, rt, pos, af, none⟩ (yielded ops a.tmps) = true then Oper.wp P ⟨dst, .call { callee := .builtin .copy, args := #[d, s], argTypes := #[t, sT] }, rt, pos, af, none⟩ a w K Q else E :=
  step_of rfl (op_copyRow hS hE d s sT rfl hd hi hs hn hsrc h1 hfit h)
theorem wl_clearRow (hS : St X w0 m0 w es m) (hE : Elem P t e size bytes z) (hz1 : ∀ v ∈ z.cells, v.oneCell' = true) (hs : a.eval s = .slice (some ⟨g, off, none⟩) k kc) (hi : RowAt es e size (.slice (some ⟨g, 0, none⟩) n c) n xs f) (hoff : n * size ≤ off) (hfit : off + k * size ≤ c * size)
    (h : ∀ w', St X w0 m0 w' (f (.slice (some ⟨g, 0, none⟩) n c) n xs) m → wpList P ops Q rest (a.put dst (.tuple #[])) w') : Wl P ops Q (⟨dst, .call { callee := .builtin .clear, args := #[s], argTypes := #[t] }, rt, pos, af, none⟩ :: rest) a w :=
  ⟨wpList_plain rfl fun K hK => op_clearRow hS hE hz1 s rfl hs hi hoff hfit fun w' hw => hK _ _ (h w' hw)⟩
end
end Go.Proofs.YtnbhhdncbajkgaaGreatDoor
/- Models: how they lie. -/
namespace Go.Proofs.YtnbhhdncbajkgaaGreatDoor
set_option linter.unusedVariables false
set_option linter.unusedSimpArgs false
open Go.RowKit Go.Shelf
def itL : Lay It := (i64L.prod vecL).by 32 fun x => (x.id, x.v)
theorem itL_open {m : Mem} {cs : List Value} {x : It} (h : itL.rd m cs x) : ∃ q c, cs = [.int .i64 x.id, .slice q x.v.length c] ∧ InK .i64 x.id ∧ vecL.rd m [.slice q x.v.length c] x.v := by
  obtain ⟨c1, c2, rfl, ⟨rfl, hk⟩, h2⟩ := h
  have e2 := vecL.len h2
  match c2, e2 with
  | [v1], _ =>
    obtain ⟨q, c, rfl, _⟩ := Lay.list_open h2
    exact ⟨q, c, rfl, hk, h2⟩
theorem itL_mk {m : Mem} {x : It} {v : Value} (hk : InK .i64 x.id) (h : vecL.rd m [v] x.v) : itL.rd m [.int .i64 x.id, v] x := ⟨[.int .i64 x.id], [v], rfl, ⟨rfl, hk⟩, h⟩
theorem el_item : Elem Tryz.prog 22 50 2 32 (.agg #[.int .i64 0, .slice none 0 0]) := ⟨Tryz.underlying22, by kernel_rfl, rfl, by decide⟩
theorem el_vec16 : Elem Tryz.prog 26 51 1 2 (.int .i16 0) := ⟨Tryz.underlying26, by kernel_rfl, rfl, by decide⟩
/-- An element of a row of items. -/
theorem Row.itemAt {m : Mem} {p : Option Addr} {l : List It} (h : Row itL m p l) (i : Nat) (hi : i < l.length) : ∃ b o q c, p = some ⟨b, o, none⟩ ∧ (∀ j v, [Value.int .i64 (l.getD i itz).id, .slice q (l.getD i itz).v.length c][j]? = some v → m ⟨b, o + i * 2 + j, none⟩ = some v) ∧ InK .i64 (l.getD i itz).id ∧ vecL.rd m [.slice q (l.getD i itz).v.length c] (l.getD i itz).v := by
  obtain ⟨b, o, cs, hp, hcs, hc⟩ := h.get i hi
  have e : l.getD i itz = l[i] := by simp [List.getD, hi]
  obtain ⟨q, c, rfl, hk, hv⟩ := itL_open hcs
  rw [e]
  exact ⟨b, o, q, c, hp, hc, hk, hv⟩
/-- An item's cells in cells of items; they may turn. -/
theorem item_parts {m : Mem} {cells : List Value} {l : List It} (h : CellsOf itL m cells l) (k : Nat) (hk : k < l.length) : ∃ q c, vecL.rd m [.slice q (l.getD k itz).v.length c] (l.getD k itz).v ∧ cells[k * 2]? = some (.int .i64 (l.getD k itz).id) ∧ cells[k * 2 + 1]? = some (.slice q (l.getD k itz).v.length c) ∧ InK .i64 (l.getD k itz).id ∧
    ∀ (m' : Mem) (v' : Value), m.Le m' → vecL.rd m' [v'] (l.getD k itz).v → CellsOf itL m' (cells.set (k * 2 + 1) v') l := by
  have e : l.getD k itz = l[k] := by simp [List.getD, hk]
  rw [e]
  obtain ⟨cs, h1, h2, h3⟩ := h.get k hk
  obtain ⟨q, c, rfl, hp, hv⟩ := itL_open h1
  exact ⟨q, c, hv, by simpa [itL, Lay.by, Lay.prod, Lay.int, Lay.list] using h2 0 _ rfl, h2 1 _ rfl, hp, fun m' v' hle hr => h3 m' 1 v' hle (by decide) (itL_mk hp hr)⟩
end Go.Proofs.YtnbhhdncbajkgaaGreatDoor
/- slices.Insert at items of the call's own: one item. -/
namespace Go.Proofs.YtnbhhdncbajkgaaGreatDoor
set_option linter.unusedVariables false
set_option linter.unusedSimpArgs false
open Go.RowKit Go.Shelf
/-- What Insert hands back. -/
def InsR (X : List Nat) (w0 : World) (m0 m : Mem) (n i : Nat) (cells : List Value) (x0 x1 : Value) (e : Ending) (w' : World) : Prop :=
  ∃ q' c', e = .returned (.slice q' (n + 1) c') ∧ St X w0 m0 w' [.row 50 2 (.slice q' (n + 1) c') (n + 1) (cells.take (i * 2) ++ [x0, x1] ++ cells.drop (i * 2))] m
set_option maxRecDepth 100000 in
set_option maxHeartbeats 4000000 in
theorem insert_end {X : List Nat} {w0 w : World} {m0 m : Mem} {q : Option Addr} {c n b : Nat} {cells : List Value} {x0 x1 : Value}
    (hS : St X w0 m0 w [.row 50 2 (.slice q n c) n cells, .box b [x0, x1]] m) (hn : n ≤ 1000) (h2 : ∀ v ∈ [x0, x1], v.oneCell' = true) :
    Calls Tryz.prog 66 #[.slice q n c, .int .i64 n, .slice (some ⟨b, 0, none⟩) 1 1] w (InsR X w0 m0 m n n cells x0 x1) := by
  have hcl : cells.length = n * 2 := (hS.row 0 rfl).1
  have hfin : Hid (cells ++ [x0, x1] = cells.take (n * 2) ++ [x0, x1] ++ cells.drop (n * 2)) := by
    show _ = _
    rw [List.take_of_length_le (by omega), List.drop_of_length_le (by omega), List.append_nil]
  have H2 := Lib.hid h2
  have hb : Hid ((n + 1) * 32 ≤ 140737488355328) := by show _ ≤ _; omega
  rcases (hS.row 0 rfl).2 with ⟨e, h0⟩ | ⟨g, cap, cur, e, _, _, g1, g2, _⟩
  · obtain ⟨rfl, rfl⟩ : q = none ∧ c = 0 := by injection e with e1 e2 e3; exact ⟨e1, e3⟩
    subst h0
    clear h2 e
    go_enter Tryz.func66, Tryz.ntmps66
    go_wp2_with (first
      | ((with_reducible refine' Wl.out ?_; apply wl_appendB el_item hS (by decide)); (· exact rfl); (· (repeat constructor)); (· exact rfl); (· (repeat constructor)); (· rfl); (· exact H2.out); (· exact hb.out); clear hS; intro w25 q25 c25 hS))
    go_ret
    exact ⟨q25, c25, rfl, by rw [← hfin.out]; exact hS.drop _ (by simp)⟩
  · cases e
    simp only [maxLen] at g2
    clear h2
    have hnc : (n : Int) ≤ c := by omega
    by_cases hce : c = n
    · have HCE := Lib.hid hce
      have hceT : (c = n) = True := eq_true hce
      clear hce
      go_enter Tryz.func66, Tryz.ntmps66
      go_wp2_with (first
        | ((with_reducible refine' Wl.out ?_; apply wl_appendB el_item hS (by decide)); (· exact rfl); (· (repeat constructor)); (· exact rfl); (· (repeat constructor)); (· rfl); (· exact H2.out); (· exact hb.out); clear hS; intro w25 q25 c25 hS))
      go_ret
      exact ⟨q25, c25, rfl, by rw [← hfin.out]; exact hS.drop _ (by simp)⟩
    · go_enter Tryz.func66, Tryz.ntmps66
      go_wp2_with (first
        | ((with_reducible refine' Wl.out ?_; apply wl_appendB el_item hS (by decide)); (· exact rfl); (· (repeat constructor)); (· exact rfl); (· (repeat constructor)); (· rfl); (· exact H2.out); (· exact hb.out); clear hS; intro w25 q25 c25 hS))
      go_ret
      exact ⟨q25, c25, rfl, by rw [← hfin.out]; exact hS.drop _ (by simp)⟩
end Go.Proofs.YtnbhhdncbajkgaaGreatDoor
/- slices.Insert at items of the call's own: one item, where a new row is laid. -/
namespace Go.Proofs.YtnbhhdncbajkgaaGreatDoor
set_option linter.unusedVariables false
set_option linter.unusedSimpArgs false
open Go.RowKit Go.Shelf
theorem ins_row {cells zs R : List Value} {i n k : Nat} {x0 x1 : Value} (hc : cells.length = n * 2) (hi : i + 1 ≤ n) (hz : zs.length = k * 2) (hk : n + 1 = i + k) (hR : R = (cells.take (i * 2) ++ zs).take (i * 2) ++ [x0, x1] ++ (cells.take (i * 2) ++ zs).drop (i * 2 + [x0, x1].length)) :
    R.length = (n + 1) * 2 ∧ R.take (i * 2 + 2) = cells.take (i * 2) ++ [x0, x1] := by
  have hl : (cells.take (i * 2)).length = i * 2 := by rw [List.length_take]; omega
  have h1 : (cells.take (i * 2) ++ zs).take (i * 2) = cells.take (i * 2) := List.take_left' hl
  rw [h1] at hR
  subst hR
  refine ⟨?_, List.take_left' (by rw [List.length_append, hl]; rfl)⟩
  simp only [List.length_append, List.length_drop, hl, hz, List.length_cons, List.length_nil]
  omega
set_option maxRecDepth 100000 in
set_option maxHeartbeats 4000000 in
theorem insert_grow {X : List Nat} {w0 w : World} {m0 m : Mem} {q : Option Addr} {c n b i : Nat} {cells : List Value} {x0 x1 : Value}
    (hS : St X w0 m0 w [.row 50 2 (.slice q n c) n cells, .box b [x0, x1]] m) (hi : i < n) (hn : n ≤ 1000) (hc : c < n + 1) (h2 : ∀ v ∈ [x0, x1], v.oneCell' = true) (h1 : ∀ v ∈ cells, v.oneCell' = true) :
    Calls Tryz.prog 66 #[.slice q n c, .int .i64 i, .slice (some ⟨b, 0, none⟩) 1 1] w (InsR X w0 m0 m n i cells x0 x1) := by
  have hcl : cells.length = n * 2 := (hS.row 0 rfl).1
  obtain ⟨g, rfl, g1, g2⟩ := row_head (hS.row 0 rfl) (by omega)
  have H2 := Lib.hid h2
  have H1 := Lib.hid h1
  have hiz : (i : Int) ≤ n := by omega
  have hin : ((i : Int) == n) = false := by
    have : ¬ (i : Int) = n := by omega
    simpa using this
  have w1 : IntKind.i64.wrap ((n : Int) + 1) = (n : Int) + 1 := wr64 (by omega) (by omega)
  obtain ⟨k, hk⟩ : ∃ k : Nat, n + 1 = i + k := ⟨n + 1 - i, by omega⟩
  have w2 : IntKind.i64.wrap ((n : Int) + 1 - i) = (k : Int) := (wr64 (by omega) (by omega)).trans (by omega)
  have w3 : IntKind.i64.wrap ((i : Int) + 1) = (i : Int) + 1 := wr64 (by omega) (by omega)
  have n1 : ((i : Int) + 1).toNat = i + 1 := by omega
  have h0i : (0 : Int) ≤ (i : Int) + 1 := by omega
  have hcn : (c : Int) < (n : Int) + 1 := by omega
  have hc0 : ¬ c = 0 := by omega
  have hci : ¬ c = i := by omega
  have hic : (i : Int) ≤ c := by omega
  simp only [maxLen] at g2
  have HK := Lib.hid hk
  have HCl := Lib.hid hcl
  have z6 : Hid (i + 1 ≤ n) := by show _ ≤ _; omega
  have z1 : Hid (i ≤ n) := by show _ ≤ _; omega
  have z2 : Hid (0 < k) := by show _ < _; omega
  have z3 : Hid (c < i + k) := by show _ < _; omega
  have z4 : Hid (i + k ≤ maxLen) := by show _ ≤ _; simp only [maxLen]; omega
  have z5 : Hid ((i + k) * 32 ≤ 140737488355328) := by show _ ≤ _; omega
  clear h1 h2 hn hk hcl hi hc g1 g2
  go_enter Tryz.func66, Tryz.ntmps66
  go_wp2_with (first
    | ((with_reducible refine' Wl.out ?_; apply wl_appGrowZ hS el_item Tryz.underlying3); (· exact rfl); (· (repeat constructor)); (· exact z1.out); (· exact rfl); (· exact z2.out); (· exact z3.out); (· exact z4.out); (· exact z5.out); clear hS; intro w40 b40 c40 zs hc1 hc2 hzl hS; rw [← HK.out] at hS hc1 ⊢; have hq1 : ¬ c40 = i := (by have := z6.out; omega); have hq2 : ¬ c40 = i + 1 := (by have := z6.out; omega); have HZl := Lib.hid hzl; have hq3 : (i : Int) ≤ (n : Int) + 1 := (by omega); have hq4 : (i : Int) + 1 ≤ (n : Int) + 1 := (by omega); clear hc1 hc2 hzl)
    | ((with_reducible refine' Wl.out ?_; apply wl_copyRow (cs := [x0, x1]) hS el_item); (· exact rfl); (· (repeat constructor)); (· exact rfl); (· have h6 := z6.out; rw [show Nat.min 1 (n + 1 - i) = 1 from Nat.min_eq_left (by omega)]; rfl); (· exact fun j v hj => by rw [Addr.add_lit, Nat.zero_add]; exact ((hS.box 2 rfl).get j v hj).1); (· exact H2.out); (· have := z6.out; have := HCl.out; have := HZl.out; have := HK.out; simp only [List.length_append, List.length_take, List.length_cons, List.length_nil]; omega); clear hS; intro w45 hS; obtain ⟨R, hR⟩ : ∃ R, R = (cells.take (i * 2) ++ zs).take (i * 2) ++ [x0, x1] ++ (cells.take (i * 2) ++ zs).drop (i * 2 + [x0, x1].length) := ⟨_, rfl⟩; rw [← hR] at hS; have HR := Lib.hid (ins_row HCl.out z6.out HZl.out HK.out hR); clear hR))
  replace hS := hS.drew
  refine startL (S := Sx _ []) (by kernel_rfl) hS.sx0 (fun _ _ _ _ => trivial) (fun hHeld => ?_)
  focus (refine takeN 0 (v := ?_) rfl (by kernel_rfl) ?_ ?_; rotate_left; focus (intro w hSw; clear hSw; go_simp; try with_reducible rfl))
  try simp only [Act.put, nz1, nz2, nz3]
  focus (refine takeN 1 (v := ?_) rfl (by kernel_rfl) ?_ ?_; rotate_left; focus (intro w hSw; clear hSw; go_simp; try with_reducible rfl))
  try simp only [Act.put, nz1, nz2, nz3]
  focus (refine takeN 2 (v := ?_) rfl (by kernel_rfl) ?_ ?_; rotate_left; focus (intro w hSw; clear hSw; go_simp; try with_reducible rfl))
  try simp only [Act.put, nz1, nz2, nz3]
  focus (refine takeN 3 (v := ?_) rfl (by kernel_rfl) ?_ ?_; rotate_left; focus (intro w hSw; clear hSw; go_simp; try with_reducible rfl))
  try simp only [Act.put, nz1, nz2, nz3]
  focus (refine takeN 4 (v := ?_) rfl (by kernel_rfl) ?_ ?_; rotate_left; focus (intro w hSw; clear hSw; go_simp; try with_reducible rfl))
  try simp only [Act.put, nz1, nz2, nz3]
  focus (refine takeN 5 (v := ?_) rfl (by kernel_rfl) ?_ ?_; rotate_left; focus (intro w hSw; clear hSw; go_simp; try with_reducible rfl))
  try simp only [Act.put, nz1, nz2, nz3]
  focus (refine takeN 6 (v := ?_) rfl (by kernel_rfl) ?_ ?_; rotate_left; focus (intro w hSw; clear hSw; go_simp; try with_reducible rfl))
  try simp only [Act.put, nz1, nz2, nz3]
  focus (refine takeN 7 (v := ?_) rfl (by kernel_rfl) ?_ ?_; rotate_left; focus (intro w hSw; clear hSw; go_simp; try with_reducible rfl))
  try simp only [Act.put, nz1, nz2, nz3]
  refine wpAnyH_ready (rs := [8]) (by kernel_rfl) (by simp) ?_
  refine consL 8 rfl (fun K hK => ?_) AllReadyH.nil
  (with_reducible apply s_copyRow (cs := cells.drop (i * 2)) hS el_item); (· exact rfl); (· (repeat constructor)); (· exact rfl); (· have h6 := z6.out; have h7 := HCl.out; rw [List.length_drop, show Nat.min (n - i) (n - i) = n - i from Nat.min_eq_left (Nat.le_refl _)]; omega); (· exact fun j v hj => by rw [List.getElem?_drop] at hj; have := (hS.row 1 rfl).cells (g := g) rfl _ v hj; rw [Addr.add_lit] at this ⊢; rw [Nat.zero_add] at this; exact this); (· exact fun v hv => H1.out v (List.mem_of_mem_drop hv)); (· have := z6.out; have := HCl.out; have := HR.out.1; rw [List.length_drop]; omega); intro w54 hS
  refine hK.out _ _ (by first | exact hS.sx0 | exact Sx.le (by assumption) hS.sx0) (fun hHeld => ?_)
  clear hK K
  try simp only [Act.put, nz1, nz2, nz3]
  refine wpAnyH_done (by kernel_rfl) ?_ _
  refine NoPanic.normal ?_
  go_wp2_with fail
  go_ret
  have e : cells.take (i * 2) ++ [x0, x1] ++ cells.drop (i * 2) = R.take ((i + 1) * 2) ++ cells.drop (i * 2) ++ R.drop ((i + 1) * 2 + (cells.drop (i * 2)).length) := by
    have h1 := z6.out
    have h2 := HCl.out
    have h3 : R.drop ((i + 1) * 2 + (cells.drop (i * 2)).length) = [] := List.drop_of_length_le (by have := HR.out.1; rw [List.length_drop]; omega)
    rw [h3, List.append_nil, show (i + 1) * 2 = i * 2 + 2 by omega, HR.out.2]
  exact ⟨some ⟨b40, 0, none⟩, c40, rfl, by rw [e]; exact hS.drop _ (by simp)⟩
end Go.Proofs.YtnbhhdncbajkgaaGreatDoor
/- slices.Insert at items of the call's own: one item, where there is room. -/
namespace Go.Proofs.YtnbhhdncbajkgaaGreatDoor
set_option linter.unusedVariables false
set_option linter.unusedSimpArgs false
open Go.RowKit Go.Shelf
theorem ins_room {cells cells' R : List Value} {i n : Nat} {x0 x1 : Value} (hc : cells.length = n * 2) (hi : i + 1 ≤ n) (hl : cells'.length = (n + 1) * 2) (ht : cells'.take (n * 2) = cells) (hR : R = cells'.take ((i + 1) * 2) ++ cells.drop (i * 2) ++ cells'.drop ((i + 1) * 2 + (cells.drop (i * 2)).length)) :
    R.length = (n + 1) * 2 ∧ R.take (i * 2) ++ [x0, x1] ++ R.drop (i * 2 + [x0, x1].length) = cells.take (i * 2) ++ [x0, x1] ++ cells.drop (i * 2) := by
  have h3 : cells'.drop ((i + 1) * 2 + (cells.drop (i * 2)).length) = [] := List.drop_of_length_le (by rw [List.length_drop]; omega)
  rw [h3, List.append_nil] at hR
  have hl2 : (cells'.take ((i + 1) * 2)).length = (i + 1) * 2 := by rw [List.length_take]; omega
  subst hR
  refine ⟨by rw [List.length_append, hl2, List.length_drop]; omega, ?_⟩
  have e1 : (cells'.take ((i + 1) * 2) ++ cells.drop (i * 2)).take (i * 2) = cells.take (i * 2) := by
    rw [List.take_append_of_le_length (by rw [hl2]; omega), List.take_take, Nat.min_eq_left (by omega), ← ht, List.take_take, Nat.min_eq_left (by omega)]
  have e2 : (cells'.take ((i + 1) * 2) ++ cells.drop (i * 2)).drop (i * 2 + [x0, x1].length) = cells.drop (i * 2) := List.drop_left' (by rw [hl2]; simp; omega)
  rw [e1, e2]
theorem take_get {cells cells' : List Value} {n k : Nat} {v : Value} (ht : cells'.take n = cells) (h : cells[k]? = some v) : cells'[k]? = some v := by
  rw [← ht, List.getElem?_take] at h
  split at h
  · exact h
  · cases h
set_option maxRecDepth 100000 in
set_option maxHeartbeats 4000000 in
theorem insert_room {X : List Nat} {w0 w : World} {m0 m : Mem} {q : Option Addr} {c n b i : Nat} {cells : List Value} {x0 x1 : Value}
    (hS : St X w0 m0 w [.row 50 2 (.slice q n c) n cells, .box b [x0, x1]] m) (hi : i < n) (hn : n ≤ 1000) (hc : n + 1 ≤ c) (h2 : ∀ v ∈ [x0, x1], v.oneCell' = true) (h1 : ∀ v ∈ cells, v.oneCell' = true) :
    Calls Tryz.prog 66 #[.slice q n c, .int .i64 i, .slice (some ⟨b, 0, none⟩) 1 1] w (InsR X w0 m0 m n i cells x0 x1) := by
  have hcl : cells.length = n * 2 := (hS.row 0 rfl).1
  obtain ⟨g, rfl, g1, g2⟩ := row_head (hS.row 0 rfl) (by omega)
  have hgb : b ≠ g := fun e => by
    have := List.pairwise_cons.1 hS.apart
    exact this.1 _ (List.mem_singleton.2 rfl) g rfl (by rw [← e]; rfl)
  have hov : ∀ lb cb, (callFunc 84 #[.slice (some ⟨b, 0, none⟩) 1 1, .slice (some ⟨g, (i + 1) * 2, none⟩) lb cb]).run Tryz.prog w = .ok (.value (.bool false)) w := fun lb cb => by
    obtain ⟨tb, hbx⟩ := hS.box 1 rfl
    rcases (hS.row 0 rfl).2 with ⟨e1, _⟩ | ⟨g', cap, cur, e1, _, hg, k1, k2, k3, _⟩
    · cases e1
    · cases e1
      have hsa : w.shape? b = some (tb, 2) := by simp [World.shape?, hbx]
      have hsb : w.shape? g = some (50, cur.size) := by simp [World.shape?, hg]
      have hfa : w.frozen? ⟨b, 0, none⟩ = false := frozen_of_row _ _ _ _ _ hbx
      have hfe : w.frozen? ⟨b, 2, none⟩ = false := frozen_of_row _ _ _ _ _ hbx
      obtain ⟨ti, hi1, hi2, hi3, hi4⟩ := el_item.at
      have hz : ∀ w, (Go.sizeOf 50).run Tryz.prog w = .ok 2 w := fun w => by simp [Go.sizeOf, typeInfo, hi1, hi3]
      rw [run_callFunc_extern Tryz.func84 (by kernel_rfl) (by kernel_rfl) (by kernel_rfl) (e := Extern.SlicesOverlaps.overlaps #[22, 22] #[4]) (by kernel_rfl),
        Lib.run_overlaps_apart w 22 4 50 Tryz.underlying22 2 hz ⟨b, 0, none⟩ ⟨g, (i + 1) * 2, none⟩ 1 1 lb cb hgb tb 50 2 cur.size hsa hsb (by omega) hfa hfe]
      rfl
  obtain ⟨cells', hS1, _, hx, hl⟩ := hS.cut (by (repeat constructor)) (n + 1) hc
  clear hS
  have hS := hS1
  clear hS1
  have H2 := Lib.hid h2
  have H1 := Lib.hid h1
  have HX := Lib.hid (hx (by omega))
  have HL := Lib.hid hl
  have hiz : (i : Int) ≤ n := by omega
  have hin : ((i : Int) == n) = false := by
    have : ¬ (i : Int) = n := by omega
    simpa using this
  have w1 : IntKind.i64.wrap ((n : Int) + 1) = (n : Int) + 1 := wr64 (by omega) (by omega)
  have w3 : IntKind.i64.wrap ((i : Int) + 1) = (i : Int) + 1 := wr64 (by omega) (by omega)
  have n1 : ((i : Int) + 1).toNat = i + 1 := by omega
  have n2 : ((n : Int) + 1).toNat = n + 1 := by omega
  have h0i : (0 : Int) ≤ (i : Int) + 1 := by omega
  have h0n : (0 : Int) ≤ (n : Int) + 1 := by omega
  have hcn : ¬ (c : Int) < (n : Int) + 1 := by omega
  have hcn2 : (n : Int) + 1 ≤ c := by omega
  have hin1 : (i : Int) ≤ (n : Int) + 1 := by omega
  have hc0 : ¬ c = 0 := by omega
  have hci : ¬ c = i := by omega
  have hci1 : ¬ c = i + 1 := by omega
  have hic : (i : Int) ≤ c := by omega
  simp only [maxLen] at g2
  have HCl := Lib.hid hcl
  have z6 : Hid (i + 1 ≤ n) := by show _ ≤ _; omega
  clear h1 h2 hn hcl hi hc g1 g2 hx hl hgb
  go_enter Tryz.func66, Tryz.ntmps66
  go_wp2_with (simp only [hov])
  clear hov
  replace hS := hS.drew
  refine startL (S := Sx _ []) (by kernel_rfl) hS.sx0 (fun _ _ _ _ => trivial) (fun hHeld => ?_)
  focus (refine takeN 0 (v := ?_) rfl (by kernel_rfl) ?_ ?_; rotate_left; focus (intro w hSw; clear hSw; go_simp; try with_reducible rfl))
  try simp only [Act.put, nz1, nz2, nz3]
  focus (refine takeN 1 (v := ?_) rfl (by kernel_rfl) ?_ ?_; rotate_left; focus (intro w hSw; clear hSw; go_simp; try with_reducible rfl))
  try simp only [Act.put, nz1, nz2, nz3]
  focus (refine takeN 2 (v := ?_) rfl (by kernel_rfl) ?_ ?_; rotate_left; focus (intro w hSw; clear hSw; go_simp; try with_reducible rfl))
  try simp only [Act.put, nz1, nz2, nz3]
  focus (refine takeN 3 (v := ?_) rfl (by kernel_rfl) ?_ ?_; rotate_left; focus (intro w hSw; clear hSw; go_simp; try with_reducible rfl))
  try simp only [Act.put, nz1, nz2, nz3]
  focus (refine takeN 4 (v := ?_) rfl (by kernel_rfl) ?_ ?_; rotate_left; focus (intro w hSw; clear hSw; go_simp; try with_reducible rfl))
  try simp only [Act.put, nz1, nz2, nz3]
  focus (refine takeN 5 (v := ?_) rfl (by kernel_rfl) ?_ ?_; rotate_left; focus (intro w hSw; clear hSw; go_simp; try with_reducible rfl))
  try simp only [Act.put, nz1, nz2, nz3]
  focus (refine takeN 6 (v := ?_) rfl (by kernel_rfl) ?_ ?_; rotate_left; focus (intro w hSw; clear hSw; go_simp; try with_reducible rfl))
  try simp only [Act.put, nz1, nz2, nz3]
  focus (refine takeN 7 (v := ?_) rfl (by kernel_rfl) ?_ ?_; rotate_left; focus (intro w hSw; clear hSw; go_simp; try with_reducible rfl))
  try simp only [Act.put, nz1, nz2, nz3]
  refine wpAnyH_ready (rs := [8]) (by kernel_rfl) (by simp) ?_
  refine consL 8 rfl (fun K hK => ?_) AllReadyH.nil
  (with_reducible apply s_copyRow (cs := cells.drop (i * 2)) hS el_item); (· exact rfl); (· (repeat constructor)); (· exact rfl); (· have h6 := z6.out; have h7 := HCl.out; rw [List.length_drop, show Nat.min (n + 1 - i) (n - i) = n - i from Nat.min_eq_right (by omega)]; omega); (· exact fun j v hj => by rw [List.getElem?_drop] at hj; have := (hS.row 0 rfl).cells (g := g) rfl _ v (take_get HX.out hj); rw [Addr.add_lit] at this ⊢; rw [Nat.zero_add] at this; exact this); (· exact fun v hv => H1.out v (List.mem_of_mem_drop hv)); (· have := z6.out; have := HCl.out; have := HL.out; rw [List.length_drop]; omega); intro w77 hS; obtain ⟨R, hR⟩ : ∃ R, R = cells'.take ((i + 1) * 2) ++ cells.drop (i * 2) ++ cells'.drop ((i + 1) * 2 + (cells.drop (i * 2)).length) := ⟨_, rfl⟩; rw [← hR] at hS; have HR := Lib.hid (ins_room (x0 := x0) (x1 := x1) HCl.out z6.out HL.out HX.out hR); clear hR
  refine hK.out _ _ (by first | exact hS.sx0 | exact Sx.le (by assumption) hS.sx0) (fun hHeld => ?_)
  clear hK K
  try simp only [Act.put, nz1, nz2, nz3]
  refine wpAnyH_done (by kernel_rfl) ?_ _
  refine NoPanic.normal ?_
  go_wp2_with (first
    | ((with_reducible refine' Wl.out ?_; apply wl_copyRow (cs := [x0, x1]) hS el_item); (· exact rfl); (· (repeat constructor)); (· exact rfl); (· have h6 := z6.out; rw [show Nat.min 1 (n + 1 - i) = 1 from Nat.min_eq_left (by omega)]; rfl); (· exact fun j v hj => by rw [Addr.add_lit, Nat.zero_add]; exact ((hS.box 1 rfl).get j v hj).1); (· exact H2.out); (· have := z6.out; have := HR.out.1; simp only [List.length_cons, List.length_nil]; omega); clear hS; intro w82 hS; rw [HR.out.2] at hS))
  go_ret
  exact ⟨some ⟨g, 0, none⟩, c, rfl, hS.drop _ (by simp)⟩
set_option maxRecDepth 100000 in
theorem insert_c {X : List Nat} {w0 w : World} {m0 m : Mem} {q : Option Addr} {c n b i : Nat} {cells : List Value} {x0 x1 : Value}
    (hS : St X w0 m0 w [.row 50 2 (.slice q n c) n cells, .box b [x0, x1]] m) (hi : i ≤ n) (hn : n ≤ 1000) (h2 : ∀ v ∈ [x0, x1], v.oneCell' = true) (h1 : ∀ v ∈ cells, v.oneCell' = true) :
    Calls Tryz.prog 66 #[.slice q n c, .int .i64 i, .slice (some ⟨b, 0, none⟩) 1 1] w (InsR X w0 m0 m n i cells x0 x1) := by
  by_cases e : i = n
  · subst e; exact insert_end hS hn h2
  · by_cases hc : n + 1 ≤ c
    · exact insert_room hS (by omega) hn hc h2 h1
    · exact insert_grow hS (by omega) hn (by omega) h2 h1
end Go.Proofs.YtnbhhdncbajkgaaGreatDoor
/- model.within, Check. -/
namespace Go.Proofs.YtnbhhdncbajkgaaGreatDoor
set_option linter.unusedVariables false
set_option linter.unusedSimpArgs false
open Go.RowKit Go.Shelf
/-- The id ahead of an item. -/
def prevI (l : List It) : Nat → Int
  | 0 => -1
  | i + 1 => (l.getD i itz).id
def okI (M : Md) (i : Nat) : Prop := (prevI M.l i + 1 ≤ (M.l.getD i itz).id ∧ (M.l.getD i itz).id ≤ 2147483647) ∧ fineV (M.l.getD i itz).v ∧ ((M.l.getD i itz).v.length : Int) = M.dim
theorem okI_all {M : Md} (h : ∀ i, i < M.l.length → okI M i) : Ris M.l ∧ ∀ x ∈ M.l, 0 ≤ x.id ∧ x.id ≤ 2147483647 ∧ fitsV M.dim x.v := by
  have hge : ∀ i, i < M.l.length → 0 ≤ (M.l.getD i itz).id := fun i => by
    induction i with
    | zero => intro hi; have := (h 0 hi).1.1; simp only [prevI] at this; omega
    | succ i ih => intro hi; have := (h (i + 1) hi).1.1; have := ih (by omega); simp only [prevI] at *; omega
  have hadj : ∀ j i, i < j → j < M.l.length → (M.l.getD i itz).id < (M.l.getD j itz).id := fun j => by
    induction j with
    | zero => intro i hi; omega
    | succ j ih =>
      intro i hi hj
      have h1 := (h (j + 1) hj).1.1
      simp only [prevI] at h1
      by_cases e : i = j
      · subst e; omega
      · have := ih i (by omega) (by omega); omega
  refine ⟨List.pairwise_iff_getElem.2 fun i j hi hj hij => ?_, fun x hx => ?_⟩
  · have := hadj j i hij hj
    simpa [List.getD, hi, hj] using this
  · obtain ⟨i, hi, rfl⟩ := List.getElem_of_mem hx
    have h1 := h i hi
    have h2 := hge i hi
    have e : M.l.getD i itz = M.l[i] := by simp [List.getD, hi]
    unfold okI at h1
    rw [e] at h1 h2
    exact ⟨h2, h1.1.2, h1.2⟩
theorem okI_of {M : Md} (h : okM M) {i : Nat} (hi : i < M.l.length) : okI M i := by
  have e : M.l.getD i itz = M.l[i] := by simp [List.getD, hi]
  have h1 := h.2.2.2.2 _ (List.getElem_mem hi)
  unfold okI
  rw [e]
  refine ⟨⟨?_, h1.2.1⟩, h1.2.2⟩
  match i, hi with
  | 0, hi => have := h1.1; simp only [prevI]; omega
  | i + 1, hi =>
    have := List.pairwise_iff_getElem.1 h.2.2.2.1 i (i + 1) (by omega) hi (by omega)
    have e2 : M.l.getD i itz = M.l[i] := by simp [List.getD, show i < M.l.length by omega]
    simp only [prevI, e2]
    omega
set_option maxRecDepth 100000 in
set_option maxHeartbeats 4000000 in
theorem mwithin_c (m : Mem) (w : World) (hm : m.In w) (x y z : Int) :
    Calls Tryz.prog 44 #[.int .i64 x, .int .i64 y, .int .i64 z] w (Ret w m fun v _ => v = .bool (decide (y ≤ x ∧ x ≤ z))) := by
  have hS := St.start hm
  by_cases h0 : y ≤ x
  · go_enter Tryz.func44, Tryz.ntmps44
    go_wp2_with fail
    go_ret
    exact ⟨_, m, rfl, by simp [h0], hS⟩
  · go_enter Tryz.func44, Tryz.ntmps44
    go_wp2_with fail
    go_ret
    exact ⟨_, m, rfl, by simp [h0]; intro _; omega, hS⟩
set_option maxRecDepth 100000 in
set_option maxHeartbeats 4000000 in
theorem mcheck_c (m : Mem) (w : World) (hm : m.In w) (q : Option Addr) (c : Nat) (M : Md) (h : itL.list.rd m [.slice q M.l.length c] M.l) :
    Calls Tryz.prog 17 #[.agg #[.int .i64 M.cap, .int .i64 M.dim, .slice q M.l.length c]] w (Ret w m fun v _ => v = .int .i64 (chkM M)) := by
  have hS := St.start hm
  obtain ⟨_, _, e, _, m2, _, r⟩ := Lay.list_open h
  cases e
  have HR := Lib.hid r
  have hml : M.l.length ≤ 9223372036854775807 := by simp only [maxLen] at m2; omega
  clear h r m2
  have bad : ¬ okM M → Hid (chkM M = 1) := fun h => if_neg h
  by_cases d1 : ¬ (1 ≤ M.cap ∧ M.cap ≤ 256)
  · have hE := bad fun o => d1 o.1
    have h1 : Hid (decide (1 ≤ M.cap ∧ M.cap ≤ 256) = false) := decide_eq_false d1
    clear bad d1 HR
    go_enter Tryz.func17, Tryz.ntmps17
    go_wp2_with (first
    | ((with_reducible refine' Wl.out ?_; apply k_box (ty := 24) (y := (.tmp 0)) hS); (· exact .mk); clear hS; intro w1 b1 hS)
    | ((with_reducible refine' Wl.out ?_; apply k_alloc (ty := 50) (dst := some 5) hS); (· exact .mk); clear hS; intro w5 b5 hS)
    | ((with_reducible refine' Wl.out ?_; apply k_load hS); (· exact .mk))
    | ((with_reducible refine' Wl.out ?_; apply k_loads hS); (· exact .mk))
    | go_skip
    | ((with_reducible refine' Wl.out ?_; apply kg_load hS); iterate 2 (· exact .mk))
    | ((with_reducible refine' Wl.out ?_; apply kg_loads hS); iterate 2 (· exact .mk))
    | ((with_reducible refine' Wl.out ?_; refine' wg_case ?_ ?_) <;> (intro hgW; (try (have hg2 := hgW; simp [go_sem] at hg2)); (first | (exfalso; assumption) | ((with_reducible refine' Wl.out ?_; apply k_no hgW)) | ((with_reducible refine' Wl.out ?_; apply kg_load hS ⟨hgW⟩); (· exact .mk)) | ((with_reducible refine' Wl.out ?_; apply kg_loads hS ⟨hgW⟩); (· exact .mk))); clear hgW))
    | ((with_reducible refine' Wl.out ?_; apply k_stores hS); (· exact .mk); clear hS; intro ws hS)
      | (go_at_call 44; refine (mwithin_c m _ hS.inw _ _ _).mono ?_; rintro e' wq ⟨_, mq, rfl, rfl, hk⟩; replace hS := hS.grow (grownBy_of_below hk.below); clear hk; rw [h1.out]))
    go_ret
    exact ⟨_, m, rfl, by rw [hE.out]; rfl, hS.done⟩
  replace d1 := Classical.not_not.1 d1
  have h1 : Hid (decide (1 ≤ M.cap ∧ M.cap ≤ 256) = true) := decide_eq_true d1
  by_cases d2 : ¬ (1 ≤ M.dim ∧ M.dim ≤ 64)
  · have hE := bad fun o => d2 o.2.1
    have h2 : Hid (decide (1 ≤ M.dim ∧ M.dim ≤ 64) = false) := decide_eq_false d2
    clear bad d1 d2 HR
    go_enter Tryz.func17, Tryz.ntmps17
    go_wp2_with (first
    | ((with_reducible refine' Wl.out ?_; apply k_box (ty := 24) (y := (.tmp 0)) hS); (· exact .mk); clear hS; intro w1 b1 hS)
    | ((with_reducible refine' Wl.out ?_; apply k_alloc (ty := 50) (dst := some 5) hS); (· exact .mk); clear hS; intro w5 b5 hS)
    | ((with_reducible refine' Wl.out ?_; apply k_load hS); (· exact .mk))
    | ((with_reducible refine' Wl.out ?_; apply k_loads hS); (· exact .mk))
    | go_skip
    | ((with_reducible refine' Wl.out ?_; apply kg_load hS); iterate 2 (· exact .mk))
    | ((with_reducible refine' Wl.out ?_; apply kg_loads hS); iterate 2 (· exact .mk))
    | ((with_reducible refine' Wl.out ?_; refine' wg_case ?_ ?_) <;> (intro hgW; (try (have hg2 := hgW; simp [go_sem] at hg2)); (first | (exfalso; assumption) | ((with_reducible refine' Wl.out ?_; apply k_no hgW)) | ((with_reducible refine' Wl.out ?_; apply kg_load hS ⟨hgW⟩); (· exact .mk)) | ((with_reducible refine' Wl.out ?_; apply kg_loads hS ⟨hgW⟩); (· exact .mk))); clear hgW))
    | ((with_reducible refine' Wl.out ?_; apply k_stores hS); (· exact .mk); clear hS; intro ws hS)
      | (go_at_call 44; refine (mwithin_c m _ hS.inw _ _ _).mono ?_; rintro e' wq ⟨_, mq, rfl, rfl, hk⟩; replace hS := hS.grow (grownBy_of_below hk.below); clear hk; (first | rw [h1.out] | rw [h2.out])))
    go_ret
    exact ⟨_, m, rfl, by rw [hE.out]; rfl, hS.done⟩
  replace d2 := Classical.not_not.1 d2
  have h2 : Hid (decide (1 ≤ M.dim ∧ M.dim ≤ 64) = true) := decide_eq_true d2
  by_cases d3 : M.cap < (M.l.length : Int)
  · have hE := bad fun o => by have := o.2.2.1; omega
    clear bad d1 d2 HR
    go_enter Tryz.func17, Tryz.ntmps17
    go_wp2_with (first
    | ((with_reducible refine' Wl.out ?_; apply k_box (ty := 24) (y := (.tmp 0)) hS); (· exact .mk); clear hS; intro w1 b1 hS)
    | ((with_reducible refine' Wl.out ?_; apply k_alloc (ty := 50) (dst := some 5) hS); (· exact .mk); clear hS; intro w5 b5 hS)
    | ((with_reducible refine' Wl.out ?_; apply k_load hS); (· exact .mk))
    | ((with_reducible refine' Wl.out ?_; apply k_loads hS); (· exact .mk))
    | go_skip
    | ((with_reducible refine' Wl.out ?_; apply kg_load hS); iterate 2 (· exact .mk))
    | ((with_reducible refine' Wl.out ?_; apply kg_loads hS); iterate 2 (· exact .mk))
    | ((with_reducible refine' Wl.out ?_; refine' wg_case ?_ ?_) <;> (intro hgW; (try (have hg2 := hgW; simp [go_sem] at hg2)); (first | (exfalso; assumption) | ((with_reducible refine' Wl.out ?_; apply k_no hgW)) | ((with_reducible refine' Wl.out ?_; apply kg_load hS ⟨hgW⟩); (· exact .mk)) | ((with_reducible refine' Wl.out ?_; apply kg_loads hS ⟨hgW⟩); (· exact .mk))); clear hgW))
    | ((with_reducible refine' Wl.out ?_; apply k_stores hS); (· exact .mk); clear hS; intro ws hS)
      | (go_at_call 44; refine (mwithin_c m _ hS.inw _ _ _).mono ?_; rintro e' wq ⟨_, mq, rfl, rfl, hk⟩; replace hS := hS.grow (grownBy_of_below hk.below); clear hk; (first | rw [h1.out] | rw [h2.out])))
    go_ret
    exact ⟨_, m, rfl, by rw [hE.out]; rfl, hS.done⟩
  have hyes : Hid ((∀ i, i < M.l.length → okI M i) → chkM M = 0) := fun h => if_pos ⟨d1, d2, by omega, (okI_all h).1, (okI_all h).2⟩
  have hno : Hid (∀ i, i < M.l.length → ¬ okI M i → chkM M = 1) := fun i hi hn => if_neg fun o => hn (okI_of o hi)
  clear bad d1 d2
  go_enter Tryz.func17, Tryz.ntmps17
  go_wp2_with (first
    | ((with_reducible refine' Wl.out ?_; apply k_box (ty := 24) (y := (.tmp 0)) hS); (· exact .mk); clear hS; intro w1 b1 hS)
    | ((with_reducible refine' Wl.out ?_; apply k_alloc (ty := 50) (dst := some 5) hS); (· exact .mk); clear hS; intro w5 b5 hS)
    | ((with_reducible refine' Wl.out ?_; apply k_load hS); (· exact .mk))
    | ((with_reducible refine' Wl.out ?_; apply k_loads hS); (· exact .mk))
    | go_skip
    | ((with_reducible refine' Wl.out ?_; apply kg_load hS); iterate 2 (· exact .mk))
    | ((with_reducible refine' Wl.out ?_; apply kg_loads hS); iterate 2 (· exact .mk))
    | ((with_reducible refine' Wl.out ?_; refine' wg_case ?_ ?_) <;> (intro hgW; (try (have hg2 := hgW; simp [go_sem] at hg2)); (first | (exfalso; assumption) | ((with_reducible refine' Wl.out ?_; apply k_no hgW)) | ((with_reducible refine' Wl.out ?_; apply kg_load hS ⟨hgW⟩); (· exact .mk)) | ((with_reducible refine' Wl.out ?_; apply kg_loads hS ⟨hgW⟩); (· exact .mk))); clear hgW))
    | ((with_reducible refine' Wl.out ?_; apply k_stores hS); (· exact .mk); clear hS; intro ws hS)
    | (go_at_call 44; refine (mwithin_c m _ hS.inw _ _ _).mono ?_; rintro e' wq ⟨_, mq, rfl, rfl, hk⟩; replace hS := hS.grow (grownBy_of_below hk.below); clear hk; (first | rw [h1.out] | rw [h2.out])))
  go_loopw [3, 27] (fun vp vi wr => ∃ k : Nat, k ≤ M.l.length ∧ vp = .int .i64 (prevI M.l k) ∧ vi = .int .i64 k ∧ Hid (∀ i, i < k → okI M i) ∧ St [] w m wr [.box b1 [.int .i64 M.cap, .int .i64 M.dim, .slice q M.l.length c]] m) (fun _ vi _ => M.l.length - (intOf vi).toNat)
  case atStart => exact ⟨0, Nat.zero_le _, rfl, rfl, fun i hi => absurd hi (Nat.not_lt_zero _), hS⟩
  case round =>
    clear hS
    obtain ⟨k, hk, rfl, rfl, hall, hS⟩ := hrel
    by_cases hlt : k < M.l.length
    · obtain ⟨b, o, qv, cv, rfl, hcx, hin, hrd⟩ := HR.out.itemAt k hlt
      have hkz : (k : Int) < M.l.length := by omega
      have hprev : -1 ≤ prevI M.l k ∧ prevI M.l k ≤ 2147483647 := by
        match k with
        | 0 => simp [prevI]
        | k + 1 =>
          have a1 := hall.out k (by omega)
          have : 0 ≤ (M.l.getD k itz).id := by
            have : ∀ i, i < k + 1 → 0 ≤ (M.l.getD i itz).id := fun i => by
              induction i with
              | zero => intro hi; have := (hall.out 0 hi).1.1; simp only [prevI] at this; omega
              | succ i ih => intro hi; have := (hall.out (i + 1) hi).1.1; have := ih (by omega); simp only [prevI] at *; omega
            exact this k (by omega)
          simp only [prevI]
          exact ⟨by omega, a1.1.2⟩
      have z1 : IntKind.i64.wrap (prevI M.l k + 1) = prevI M.l k + 1 := wr64 (by omega) (by omega)
      have hA : okI M k → Hid (∀ i, i < k + 1 → okI M i) := fun h i hi => by
        by_cases e : i = k
        · subst e; exact h
        · exact hall.out i (by omega)
      have hN := hno.out k hlt
      have hnext : prevI M.l (k + 1) = (M.l.getD k itz).id := rfl
      have HNx := Lib.hid hnext
      have A0 := Lib.hid hrd
      unfold okI at hA hN
      clear hno hin hrd hprev hnext
      generalize prevI M.l k = pv at *
      generalize M.l.getD k itz = x at *
      by_cases g1 : pv + 1 ≤ x.id ∧ x.id ≤ 2147483647
      · have h3 : Hid (decide (pv + 1 ≤ x.id ∧ x.id ≤ 2147483647) = true) := decide_eq_true g1
        by_cases g2 : fineV x.v
        · have h4 : Hid (chkV x.v = 0) := if_pos g2
          by_cases g3 : (x.v.length : Int) = M.dim
          · have hne : ((x.v.length : Int) != M.dim) = false := by simp [g3]
            have HA := hA ⟨g1, g2, g3⟩
            clear hA hN g1 g2 g3 hall
            go_wp2_with (first
    | ((with_reducible refine' Wl.out ?_; apply k_box (ty := 24) (y := (.tmp 0)) hS); (· exact .mk); clear hS; intro w1 b1 hS)
    | ((with_reducible refine' Wl.out ?_; apply k_alloc (ty := 50) (dst := some 5) hS); (· exact .mk); clear hS; intro w5 b5 hS)
    | ((with_reducible refine' Wl.out ?_; apply k_load hS); (· exact .mk))
    | ((with_reducible refine' Wl.out ?_; apply k_loads hS); (· exact .mk))
    | go_skip
    | ((with_reducible refine' Wl.out ?_; apply kg_load hS); iterate 2 (· exact .mk))
    | ((with_reducible refine' Wl.out ?_; apply kg_loads hS); iterate 2 (· exact .mk))
    | ((with_reducible refine' Wl.out ?_; refine' wg_case ?_ ?_) <;> (intro hgW; (try (have hg2 := hgW; simp [go_sem] at hg2)); (first | (exfalso; assumption) | ((with_reducible refine' Wl.out ?_; apply k_no hgW)) | ((with_reducible refine' Wl.out ?_; apply kg_load hS ⟨hgW⟩); (· exact .mk)) | ((with_reducible refine' Wl.out ?_; apply kg_loads hS ⟨hgW⟩); (· exact .mk))); clear hgW))
    | ((with_reducible refine' Wl.out ?_; apply k_stores hS); (· exact .mk); clear hS; intro ws hS)
              | (go_at_call 44; refine (mwithin_c m _ hS.inw _ _ _).mono ?_; rintro e' wq ⟨_, mq, rfl, rfl, hk⟩; replace hS := hS.grow (grownBy_of_below hk.below); clear hk; rw [h3.out])
              | (go_at_call 45; refine (vcheck_c m _ hS.inw _ _ A0.out).mono ?_; rintro e' wq ⟨_, mq, rfl, rfl, hk⟩; replace hS := hS.grow (grownBy_of_below hk.below); clear hk; rw [h4.out]))
            go_roundw
            case rel => exact ⟨k + 1, hlt, by rw [HNx.out], by go_num, HA, hS.forget (x := .box b5 _) (by (repeat constructor))⟩
            case measure => simp [intOf]; omega
          · have hne : ((x.v.length : Int) != M.dim) = true := by simp [g3]
            have HE := Lib.hid (hN fun h => g3 h.2.2)
            clear hA hN g1 g2 g3 hall
            go_wp2_with (first
    | ((with_reducible refine' Wl.out ?_; apply k_box (ty := 24) (y := (.tmp 0)) hS); (· exact .mk); clear hS; intro w1 b1 hS)
    | ((with_reducible refine' Wl.out ?_; apply k_alloc (ty := 50) (dst := some 5) hS); (· exact .mk); clear hS; intro w5 b5 hS)
    | ((with_reducible refine' Wl.out ?_; apply k_load hS); (· exact .mk))
    | ((with_reducible refine' Wl.out ?_; apply k_loads hS); (· exact .mk))
    | go_skip
    | ((with_reducible refine' Wl.out ?_; apply kg_load hS); iterate 2 (· exact .mk))
    | ((with_reducible refine' Wl.out ?_; apply kg_loads hS); iterate 2 (· exact .mk))
    | ((with_reducible refine' Wl.out ?_; refine' wg_case ?_ ?_) <;> (intro hgW; (try (have hg2 := hgW; simp [go_sem] at hg2)); (first | (exfalso; assumption) | ((with_reducible refine' Wl.out ?_; apply k_no hgW)) | ((with_reducible refine' Wl.out ?_; apply kg_load hS ⟨hgW⟩); (· exact .mk)) | ((with_reducible refine' Wl.out ?_; apply kg_loads hS ⟨hgW⟩); (· exact .mk))); clear hgW))
    | ((with_reducible refine' Wl.out ?_; apply k_stores hS); (· exact .mk); clear hS; intro ws hS)
              | (go_at_call 44; refine (mwithin_c m _ hS.inw _ _ _).mono ?_; rintro e' wq ⟨_, mq, rfl, rfl, hk⟩; replace hS := hS.grow (grownBy_of_below hk.below); clear hk; rw [h3.out])
              | (go_at_call 45; refine (vcheck_c m _ hS.inw _ _ A0.out).mono ?_; rintro e' wq ⟨_, mq, rfl, rfl, hk⟩; replace hS := hS.grow (grownBy_of_below hk.below); clear hk; rw [h4.out]))
            go_ret
            exact ⟨_, m, rfl, by rw [HE.out]; rfl, hS.done⟩
        · have h4 : Hid (chkV x.v = 1) := if_neg g2
          have HE := Lib.hid (hN fun h => g2 h.2.1)
          clear hA hN g1 g2 hall
          go_wp2_with (first
    | ((with_reducible refine' Wl.out ?_; apply k_box (ty := 24) (y := (.tmp 0)) hS); (· exact .mk); clear hS; intro w1 b1 hS)
    | ((with_reducible refine' Wl.out ?_; apply k_alloc (ty := 50) (dst := some 5) hS); (· exact .mk); clear hS; intro w5 b5 hS)
    | ((with_reducible refine' Wl.out ?_; apply k_load hS); (· exact .mk))
    | ((with_reducible refine' Wl.out ?_; apply k_loads hS); (· exact .mk))
    | go_skip
    | ((with_reducible refine' Wl.out ?_; apply kg_load hS); iterate 2 (· exact .mk))
    | ((with_reducible refine' Wl.out ?_; apply kg_loads hS); iterate 2 (· exact .mk))
    | ((with_reducible refine' Wl.out ?_; refine' wg_case ?_ ?_) <;> (intro hgW; (try (have hg2 := hgW; simp [go_sem] at hg2)); (first | (exfalso; assumption) | ((with_reducible refine' Wl.out ?_; apply k_no hgW)) | ((with_reducible refine' Wl.out ?_; apply kg_load hS ⟨hgW⟩); (· exact .mk)) | ((with_reducible refine' Wl.out ?_; apply kg_loads hS ⟨hgW⟩); (· exact .mk))); clear hgW))
    | ((with_reducible refine' Wl.out ?_; apply k_stores hS); (· exact .mk); clear hS; intro ws hS)
              | (go_at_call 44; refine (mwithin_c m _ hS.inw _ _ _).mono ?_; rintro e' wq ⟨_, mq, rfl, rfl, hk⟩; replace hS := hS.grow (grownBy_of_below hk.below); clear hk; rw [h3.out])
              | (go_at_call 45; refine (vcheck_c m _ hS.inw _ _ A0.out).mono ?_; rintro e' wq ⟨_, mq, rfl, rfl, hk⟩; replace hS := hS.grow (grownBy_of_below hk.below); clear hk; rw [h4.out]))
          go_ret
          exact ⟨_, m, rfl, by rw [HE.out]; rfl, hS.done⟩
      · have h3 : Hid (decide (pv + 1 ≤ x.id ∧ x.id ≤ 2147483647) = false) := decide_eq_false g1
        have HE := Lib.hid (hN fun h => g1 h.1)
        clear hA hN g1 hall
        go_wp2_with (first
    | ((with_reducible refine' Wl.out ?_; apply k_box (ty := 24) (y := (.tmp 0)) hS); (· exact .mk); clear hS; intro w1 b1 hS)
    | ((with_reducible refine' Wl.out ?_; apply k_alloc (ty := 50) (dst := some 5) hS); (· exact .mk); clear hS; intro w5 b5 hS)
    | ((with_reducible refine' Wl.out ?_; apply k_load hS); (· exact .mk))
    | ((with_reducible refine' Wl.out ?_; apply k_loads hS); (· exact .mk))
    | go_skip
    | ((with_reducible refine' Wl.out ?_; apply kg_load hS); iterate 2 (· exact .mk))
    | ((with_reducible refine' Wl.out ?_; apply kg_loads hS); iterate 2 (· exact .mk))
    | ((with_reducible refine' Wl.out ?_; refine' wg_case ?_ ?_) <;> (intro hgW; (try (have hg2 := hgW; simp [go_sem] at hg2)); (first | (exfalso; assumption) | ((with_reducible refine' Wl.out ?_; apply k_no hgW)) | ((with_reducible refine' Wl.out ?_; apply kg_load hS ⟨hgW⟩); (· exact .mk)) | ((with_reducible refine' Wl.out ?_; apply kg_loads hS ⟨hgW⟩); (· exact .mk))); clear hgW))
    | ((with_reducible refine' Wl.out ?_; apply k_stores hS); (· exact .mk); clear hS; intro ws hS)
              | (go_at_call 44; refine (mwithin_c m _ hS.inw _ _ _).mono ?_; rintro e' wq ⟨_, mq, rfl, rfl, hk⟩; replace hS := hS.grow (grownBy_of_below hk.below); clear hk; rw [h3.out]))
        go_ret
        exact ⟨_, m, rfl, by rw [HE.out]; rfl, hS.done⟩
    · obtain rfl : k = M.l.length := by omega
      have HE := Lib.hid (hyes.out hall.out)
      go_wp2_with (first
    | ((with_reducible refine' Wl.out ?_; apply k_box (ty := 24) (y := (.tmp 0)) hS); (· exact .mk); clear hS; intro w1 b1 hS)
    | ((with_reducible refine' Wl.out ?_; apply k_alloc (ty := 50) (dst := some 5) hS); (· exact .mk); clear hS; intro w5 b5 hS)
    | ((with_reducible refine' Wl.out ?_; apply k_load hS); (· exact .mk))
    | ((with_reducible refine' Wl.out ?_; apply k_loads hS); (· exact .mk))
    | go_skip
    | ((with_reducible refine' Wl.out ?_; apply kg_load hS); iterate 2 (· exact .mk))
    | ((with_reducible refine' Wl.out ?_; apply kg_loads hS); iterate 2 (· exact .mk))
    | ((with_reducible refine' Wl.out ?_; refine' wg_case ?_ ?_) <;> (intro hgW; (try (have hg2 := hgW; simp [go_sem] at hg2)); (first | (exfalso; assumption) | ((with_reducible refine' Wl.out ?_; apply k_no hgW)) | ((with_reducible refine' Wl.out ?_; apply kg_load hS ⟨hgW⟩); (· exact .mk)) | ((with_reducible refine' Wl.out ?_; apply kg_loads hS ⟨hgW⟩); (· exact .mk))); clear hgW))
    | ((with_reducible refine' Wl.out ?_; apply k_stores hS); (· exact .mk); clear hS; intro ws hS))
      go_ret
      exact ⟨_, m, rfl, by rw [HE.out]; rfl, hS.done⟩
end Go.Proofs.YtnbhhdncbajkgaaGreatDoor
/- model.find: binary search. -/
namespace Go.Proofs.YtnbhhdncbajkgaaGreatDoor
set_option linter.unusedVariables false
set_option linter.unusedSimpArgs false
open Go.RowKit Go.Shelf
set_option maxRecDepth 100000 in
set_option maxHeartbeats 4000000 in
theorem mcmp_c (m : Mem) (w : World) (hm : m.In w) (x z : Int) (u : Value) (hu : u.oneCell' = true) :
    Calls Tryz.prog 64 #[.agg #[.int .i64 x, u], .int .i64 z] w (Ret w m fun v _ => v = .int .i64 (Lib.compareInt x z)) := by
  have hS := St.start hm
  go_enter Tryz.func64, Tryz.ntmps64
  go_wp2_with (first
    | ((with_reducible refine' Wl.out ?_; apply k_box (ty := 50) (y := (.tmp 0)) hS); (· exact .mk); clear hS; intro w2 b2 hS)
    | ((with_reducible refine' Wl.out ?_; apply k_load hS); (· exact .mk))
    | (go_at_call 65; refine (Tryz.cmp_Compare_int _ _ _).mono ?_; rintro e' w9 ⟨rfl, rfl⟩))
  go_ret
  exact ⟨_, m, rfl, rfl, hS.done⟩
theorem pos_at {l : List It} {z : Int} (hs : Ris l) {i j : Nat} (hij : i ≤ j) (hj : j < l.length) (h : z ≤ (l.getD i itz).id) : z ≤ (l.getD j itz).id := by
  by_cases e : i = j
  · rw [← e]; exact h
  · have hi : i < l.length := by omega
    have := List.pairwise_iff_getElem.1 hs i j hi hj (by omega)
    have e1 : l.getD i itz = l[i] := by simp [List.getD, hi]
    have e2 : l.getD j itz = l[j] := by simp [List.getD, hj]
    rw [e1] at h; rw [e2]; omega
theorem pos_lt {l : List It} {z : Int} (hs : Ris l) {i j : Nat} (hij : i ≤ j) (hj : j < l.length) (h : (l.getD j itz).id < z) : (l.getD i itz).id < z := by
  by_cases e : i = j
  · rw [e]; exact h
  · have hi : i < l.length := by omega
    have := List.pairwise_iff_getElem.1 hs i j hi hj (by omega)
    have e1 : l.getD i itz = l[i] := by simp [List.getD, hi]
    have e2 : l.getD j itz = l[j] := by simp [List.getD, hj]
    rw [e2] at h; rw [e1]; omega
/-- Where an id is, or is to be, and whether it is there. -/
def FindR (l : List It) (z : Int) (v : Value) : Prop := ∃ (i : Nat) (B : Bool), Hid (PosM l z i) ∧ Hid (B = decide (i < l.length ∧ (l.getD i itz).id = z)) ∧ v = .tuple #[.int .i64 i, .bool B]
set_option maxRecDepth 100000 in
set_option maxHeartbeats 4000000 in
theorem bsearch_c (m : Mem) (w : World) (hm : m.In w) (q : Option Addr) (c : Nat) (l : List It) (h : itL.list.rd m [.slice q l.length c] l) (hs : Ris l) (hl : l.length ≤ 1000) (z : Int) :
    Calls Tryz.prog 63 #[.slice q l.length c, .int .i64 z, .func (.func 64) #[] #[]] w (Ret w m fun v _ => FindR l z v) := by
  have hS := St.start hm
  obtain ⟨_, _, e, _, m2, _, r⟩ := Lay.list_open h
  cases e
  have HR := Lib.hid r
  have HSo := Lib.hid hs
  clear h r m2 hs
  go_enter Tryz.func63, Tryz.ntmps63
  go_wp2_with (first
    | ((with_reducible refine' Wl.out ?_; apply k_loads hS); (· exact .mk))
    | go_skip
    | ((with_reducible refine' Wl.out ?_; apply kg_loads hS); iterate 2 (· exact .mk))
    | ((with_reducible refine' Wl.out ?_; refine' wg_case ?_ ?_) <;> (intro hgW; (try (have hg2 := hgW; simp [go_sem] at hg2)); (first | (exfalso; assumption) | ((with_reducible refine' Wl.out ?_; apply k_no hgW)) | ((with_reducible refine' Wl.out ?_; apply kg_loads hS ⟨hgW⟩); (· exact .mk))); clear hgW)))
  go_loopw [9, 10] (fun va vb wr => ∃ lo hi : Nat, lo ≤ hi ∧ hi ≤ l.length ∧ va = .int .i64 lo ∧ vb = .int .i64 hi ∧ Hid (∀ j, j < lo → (l.getD j itz).id < z) ∧ Hid (∀ j, hi ≤ j → j < l.length → z ≤ (l.getD j itz).id) ∧ St [] w m wr [] m) (fun va vb _ => (intOf vb).toNat - (intOf va).toNat)
  case atStart => exact ⟨0, l.length, Nat.zero_le _, Nat.le_refl _, rfl, rfl, fun j hj => absurd hj (Nat.not_lt_zero _), fun j h1 h2 => by omega, hS⟩
  case round =>
    clear hS
    obtain ⟨lo, hi, hlh, hhi, rfl, rfl, hA, hB, hS⟩ := hrel
    by_cases hlt : lo < hi
    · obtain ⟨k, hk⟩ : ∃ k : Nat, k = (lo + hi) / 2 := ⟨_, rfl⟩
      have k1 : lo ≤ k := by omega
      have k2 : k < hi := by omega
      obtain ⟨b, o, qv, cv, rfl, hcx, hin, hrd⟩ := HR.out.itemAt k (by omega)
      have hone : (Value.slice qv (l.getD k itz).v.length cv).oneCell' = true := by simp [Value.oneCell']
      have hltz : (lo : Int) < hi := by omega
      have w1 : IntKind.i64.wrap ((lo : Int) + hi) = (lo : Int) + hi := wr64 (by omega) (by omega)
      have w2 : IntKind.u64.wrap ((lo : Int) + hi) = (lo : Int) + hi := by simp [IntKind.wrap, IntKind.signed, IntKind.bits]; omega
      have w3 : ((lo : Int) + hi) / 2 = k := by omega
      have w4 : IntKind.i64.wrap (k : Int) = k := wr64 (by omega) (by omega)
      have w5 : IntKind.u64.wrap (k : Int) = k := by simp [IntKind.wrap, IntKind.signed, IntKind.bits]; omega
      have hkz : (k : Int) < l.length := by omega
      have hA2 : (l.getD k itz).id < z → Hid (∀ j, j < k + 1 → (l.getD j itz).id < z) := fun h j hj => pos_lt HSo.out (show j ≤ k by omega) (by omega) h
      have hB2 : z ≤ (l.getD k itz).id → Hid (∀ j, k ≤ j → j < l.length → z ≤ (l.getD j itz).id) := fun h j hj hl => pos_at HSo.out hj hl h
      have hcmp : Lib.compareInt (l.getD k itz).id z < 0 ↔ (l.getD k itz).id < z := by unfold Lib.compareInt; split <;> (try split) <;> omega
      clear hin hrd hk
      generalize l.getD k itz = x at *
      obtain ⟨C, hC⟩ : ∃ C, Lib.compareInt x.id z = C := ⟨_, rfl⟩
      rw [hC] at hcmp
      have HC := Lib.hid hC
      clear hC
      by_cases hx : x.id < z
      · have hc0 : C < 0 := hcmp.2 hx
        have HA := hA2 hx
        clear hA2 hB2 hcmp hA hx
        go_wp2_with (first
    | ((with_reducible refine' Wl.out ?_; apply k_loads hS); (· exact .mk))
    | go_skip
    | ((with_reducible refine' Wl.out ?_; apply kg_loads hS); iterate 2 (· exact .mk))
    | ((with_reducible refine' Wl.out ?_; refine' wg_case ?_ ?_) <;> (intro hgW; (try (have hg2 := hgW; simp [go_sem] at hg2)); (first | (exfalso; assumption) | ((with_reducible refine' Wl.out ?_; apply k_no hgW)) | ((with_reducible refine' Wl.out ?_; apply kg_loads hS ⟨hgW⟩); (· exact .mk))); clear hgW))
          | (go_at_call 64; refine (mcmp_c m _ hS.inw _ _ _ hone).mono ?_; rintro e' wq ⟨_, mq, rfl, rfl, hk⟩; replace hS := hS.grow (grownBy_of_below hk.below); clear hk; rw [HC.out]))
        go_roundw
        case rel => exact ⟨k + 1, hi, by omega, hhi, by go_num, rfl, HA, hB, hS⟩
        case measure => simp [intOf]; omega
      · have hc0 : ¬ C < 0 := fun h => hx (hcmp.1 h)
        have HB := hB2 (by omega)
        clear hA2 hB2 hcmp hB hx
        go_wp2_with (first
    | ((with_reducible refine' Wl.out ?_; apply k_loads hS); (· exact .mk))
    | go_skip
    | ((with_reducible refine' Wl.out ?_; apply kg_loads hS); iterate 2 (· exact .mk))
    | ((with_reducible refine' Wl.out ?_; refine' wg_case ?_ ?_) <;> (intro hgW; (try (have hg2 := hgW; simp [go_sem] at hg2)); (first | (exfalso; assumption) | ((with_reducible refine' Wl.out ?_; apply k_no hgW)) | ((with_reducible refine' Wl.out ?_; apply kg_loads hS ⟨hgW⟩); (· exact .mk))); clear hgW))
          | (go_at_call 64; refine (mcmp_c m _ hS.inw _ _ _ hone).mono ?_; rintro e' wq ⟨_, mq, rfl, rfl, hk⟩; replace hS := hS.grow (grownBy_of_below hk.below); clear hk; rw [HC.out]))
        go_roundw
        case rel => exact ⟨lo, k, k1, by omega, rfl, rfl, hA, HB, hS⟩
        case measure => simp [intOf]; omega
    · obtain rfl : lo = hi := by omega
      have hltz : ¬ (lo : Int) < lo := by omega
      have HP : Hid (PosM l z lo) := ⟨hhi, hA.out, hB.out⟩
      by_cases hend : lo < l.length
      · obtain ⟨b, o, qv, cv, rfl, hcx, hin, hrd⟩ := HR.out.itemAt lo hend
        have hone : (Value.slice qv (l.getD lo itz).v.length cv).oneCell' = true := by simp [Value.oneCell']
        have hez : (lo : Int) < l.length := by omega
        obtain ⟨X, hX⟩ : ∃ X, X = l.getD lo itz := ⟨_, rfl⟩
        have hDt : X.id = z → Hid (decide (lo < l.length ∧ (l.getD lo itz).id = z) = true) := fun h => decide_eq_true ⟨hend, by rw [← hX]; exact h⟩
        have hDf : X.id ≠ z → Hid (decide (lo < l.length ∧ (l.getD lo itz).id = z) = false) := fun h => decide_eq_false fun k => h (by rw [hX]; exact k.2)
        have hcmp : Lib.compareInt (l.getD lo itz).id z = 0 ↔ (l.getD lo itz).id = z := by unfold Lib.compareInt; split <;> (try split) <;> omega
        rw [← hX] at hcx hone hcmp
        clear hin hrd hA hB hX
        generalize X = x at *
        obtain ⟨C, hC⟩ : ∃ C, Lib.compareInt x.id z = C := ⟨_, rfl⟩
        rw [hC] at hcmp
        have HC := Lib.hid hC
        clear hC
        by_cases hx : x.id = z
        · have hc0 : C = 0 := hcmp.2 hx
          have HX : Hid (decide (lo < l.length ∧ (l.getD lo itz).id = z) = true) := hDt hx
          clear hcmp hx hDt hDf
          subst hc0
          go_wp2_with (first
    | ((with_reducible refine' Wl.out ?_; apply k_loads hS); (· exact .mk))
    | go_skip
    | ((with_reducible refine' Wl.out ?_; apply kg_loads hS); iterate 2 (· exact .mk))
    | ((with_reducible refine' Wl.out ?_; refine' wg_case ?_ ?_) <;> (intro hgW; (try (have hg2 := hgW; simp [go_sem] at hg2)); (first | (exfalso; assumption) | ((with_reducible refine' Wl.out ?_; apply k_no hgW)) | ((with_reducible refine' Wl.out ?_; apply kg_loads hS ⟨hgW⟩); (· exact .mk))); clear hgW))
            | (go_at_call 64; refine (mcmp_c m _ hS.inw _ _ _ hone).mono ?_; rintro e' wq ⟨_, mq, rfl, rfl, hk⟩; replace hS := hS.grow (grownBy_of_below hk.below); clear hk; rw [HC.out]))
          go_ret2
          exact ⟨_, m, rfl, ⟨lo, true, HP, HX.out.symm, rfl⟩, hS⟩
        · have hc0 : (C == 0) = false := by simp; exact fun h => hx (hcmp.1 h)
          have HX : Hid (decide (lo < l.length ∧ (l.getD lo itz).id = z) = false) := hDf hx
          clear hcmp hx hDt hDf
          go_wp2_with (first
    | ((with_reducible refine' Wl.out ?_; apply k_loads hS); (· exact .mk))
    | go_skip
    | ((with_reducible refine' Wl.out ?_; apply kg_loads hS); iterate 2 (· exact .mk))
    | ((with_reducible refine' Wl.out ?_; refine' wg_case ?_ ?_) <;> (intro hgW; (try (have hg2 := hgW; simp [go_sem] at hg2)); (first | (exfalso; assumption) | ((with_reducible refine' Wl.out ?_; apply k_no hgW)) | ((with_reducible refine' Wl.out ?_; apply kg_loads hS ⟨hgW⟩); (· exact .mk))); clear hgW))
            | (go_at_call 64; refine (mcmp_c m _ hS.inw _ _ _ hone).mono ?_; rintro e' wq ⟨_, mq, rfl, rfl, hk⟩; replace hS := hS.grow (grownBy_of_below hk.below); clear hk; rw [HC.out]))
          go_ret2
          exact ⟨_, m, rfl, ⟨lo, false, HP, HX.out.symm, rfl⟩, hS⟩
      · have hez : ¬ (lo : Int) < l.length := by omega
        have HRes : Hid (decide (lo < l.length ∧ (l.getD lo itz).id = z) = false) := decide_eq_false fun h => hend h.1
        clear hA hB hend
        go_wp2_with (first
    | ((with_reducible refine' Wl.out ?_; apply k_loads hS); (· exact .mk))
    | go_skip
    | ((with_reducible refine' Wl.out ?_; apply kg_loads hS); iterate 2 (· exact .mk))
    | ((with_reducible refine' Wl.out ?_; refine' wg_case ?_ ?_) <;> (intro hgW; (try (have hg2 := hgW; simp [go_sem] at hg2)); (first | (exfalso; assumption) | ((with_reducible refine' Wl.out ?_; apply k_no hgW)) | ((with_reducible refine' Wl.out ?_; apply kg_loads hS ⟨hgW⟩); (· exact .mk))); clear hgW)))
        go_ret2
        exact ⟨_, m, rfl, ⟨lo, false, HP, HRes.out.symm, rfl⟩, hS⟩
set_option maxRecDepth 100000 in
set_option maxHeartbeats 4000000 in
theorem mfind_c (m : Mem) (w : World) (hm : m.In w) (v0 v1 : Value) (q : Option Addr) (c : Nat) (l : List It) (h : itL.list.rd m [.slice q l.length c] l) (hs : Ris l) (hl : l.length ≤ 1000) (z : Int) (h0 : v0.oneCell' = true) (h1 : v1.oneCell' = true) :
    Calls Tryz.prog 29 #[.agg #[v0, v1, .slice q l.length c], .int .i64 z] w (Ret w m fun v _ => FindR l z v) := by
  have hS := St.start hm
  have A0 := Lib.hid h
  have HSo := Lib.hid hs
  clear h hs
  go_enter Tryz.func29, Tryz.ntmps29
  go_wp2_with (first
    | ((with_reducible refine' Wl.out ?_; apply k_box (ty := 24) (y := (.tmp 0)) hS); (· exact .mk); clear hS; intro w2 b2 hS)
    | ((with_reducible refine' Wl.out ?_; apply k_load hS); (· exact .mk))
    | (go_at_call 63; refine (bsearch_c m _ hS.inw q c l A0.out HSo.out hl z).mono ?_; rintro e' w9 ⟨_, m9, rfl, ⟨i, B, hi, hB, rfl⟩, hk⟩; replace hS := hS.grow (grownBy_of_below hk.below); clear hk))
  go_ret2
  exact ⟨_, m, rfl, ⟨i, B, hi, hB, rfl⟩, hS.done⟩
end Go.Proofs.YtnbhhdncbajkgaaGreatDoor
/- model.own. -/
namespace Go.Proofs.YtnbhhdncbajkgaaGreatDoor
set_option linter.unusedVariables false
set_option linter.unusedSimpArgs false
open Go.RowKit Go.Shelf
set_option maxRecDepth 100000 in
set_option maxHeartbeats 2000000 in
theorem vclone_c (m : Mem) (w : World) (hm : m.In w) (v : Value) {xs} (h : (Lay.int .i16).list.rd m [v] xs) : Calls Tryz.prog 31 #[v] w (RetRow (Lay.int .i16) 51 w m xs) := by
  have qn : ∀ (w : World) (a : Option Addr) (n c n' c' : Nat), (binOp .eql 26 (.slice a n c) (.slice none n' c')).run Tryz.prog w = .ok (.bool a.isNone) w := fun w a n c n' c' => Lib.run_eql_slice_nil w _ _ a n c n' c' Tryz.underlying26
  have HH := Lib.hid h
  obtain ⟨p, c, rfl, h1, h2, h3, h4⟩ := Lay.list_open h
  have hS := St.start hm
  cases p with
  | none =>
    have : xs = [] := by
      rcases Nat.eq_zero_or_pos xs.length with h0 | h0
      · exact List.eq_nil_of_length_eq_zero h0
      · obtain ⟨b, o, e, _⟩ := h4 h0; cases e
    subst this
    clear h h1 h2 h3 h4 HH
    go_enter Tryz.func31, Tryz.ntmps31
    go_wp2
    go_ret
    exact ⟨none, 0, [], rfl, CellsOf.nil _ _, hS.nilRow _ _⟩
  | some a =>
    have HB := Lib.hid h3
    clear h h1 h2 h3 h4
    go_enter Tryz.func31, Tryz.ntmps31
    go_wp2_with (first
      | ((with_reducible refine' Wl.out ?_; apply wl_lit0 el_vec16 hS); clear hS; intro w5 b5 hS)
      | ((with_reducible refine' Wl.out ?_; apply wl_append (Lay.int .i16) el_vec16 hS (by decide)); (· exact rfl); (· (repeat constructor)); (· exact rfl); (· exact HH.out); (· rw [Nat.zero_add]; exact HB.out); clear hS; intro w7 q7 c7 news7 hc7 hS; simp only [Nat.zero_add, List.nil_append] at hS))
    go_ret
    exact ⟨q7, c7, news7, by simp, hc7, hS⟩
set_option maxRecDepth 100000 in
set_option maxHeartbeats 2000000 in
theorem itclone_c (m : Mem) (w : World) (hm : m.In w) (v : Value) {xs} (h : itL.list.rd m [v] xs) : Calls Tryz.prog 62 #[v] w (RetRow itL 50 w m xs) := by
  have qn : ∀ (w : World) (a : Option Addr) (n c n' c' : Nat), (binOp .eql 22 (.slice a n c) (.slice none n' c')).run Tryz.prog w = .ok (.bool a.isNone) w := fun w a n c n' c' => Lib.run_eql_slice_nil w _ _ a n c n' c' Tryz.underlying22
  have HH := Lib.hid h
  obtain ⟨p, c, rfl, h1, h2, h3, h4⟩ := Lay.list_open h
  have hS := St.start hm
  cases p with
  | none =>
    have : xs = [] := by
      rcases Nat.eq_zero_or_pos xs.length with h0 | h0
      · exact List.eq_nil_of_length_eq_zero h0
      · obtain ⟨b, o, e, _⟩ := h4 h0; cases e
    subst this
    clear h h1 h2 h3 h4 HH
    go_enter Tryz.func62, Tryz.ntmps62
    go_wp2
    go_ret
    exact ⟨none, 0, [], rfl, CellsOf.nil _ _, hS.nilRow _ _⟩
  | some a =>
    have HB := Lib.hid h3
    clear h h1 h2 h3 h4
    go_enter Tryz.func62, Tryz.ntmps62
    go_wp2_with (first
      | ((with_reducible refine' Wl.out ?_; apply wl_lit0 el_item hS); clear hS; intro w5 b5 hS)
      | ((with_reducible refine' Wl.out ?_; apply wl_append itL el_item hS (by decide)); (· exact rfl); (· (repeat constructor)); (· exact rfl); (· exact HH.out); (· rw [Nat.zero_add]; exact HB.out); clear hS; intro w7 q7 c7 news7 hc7 hS; simp only [Nat.zero_add, List.nil_append] at hS))
    go_ret
    exact ⟨q7, c7, news7, by simp, hc7, hS⟩
/-- A model of the call's own: its items may be written. -/
def OwnM (w : World) (m : Mem) (M : Md) (e : Ending) (w' : World) : Prop := ∃ q c cells m', e = .returned (.agg #[.int .i64 M.cap, .int .i64 M.dim, .slice q M.l.length c]) ∧ CellsOf itL m' cells M.l ∧ St [] w m w' [.row 50 2 (.slice q M.l.length c) M.l.length cells] m'
set_option maxRecDepth 100000 in
set_option maxHeartbeats 4000000 in
theorem mown_c (m : Mem) (w : World) (hm : m.In w) (q : Option Addr) (c : Nat) (M : Md) (h : itL.list.rd m [.slice q M.l.length c] M.l) :
    Calls Tryz.prog 28 #[.agg #[.int .i64 M.cap, .int .i64 M.dim, .slice q M.l.length c]] w (OwnM w m M) := by
  have hS := St.start hm
  have HI := Lib.hid h
  have hml : M.l.length ≤ 9223372036854775807 := by
    obtain ⟨_, _, e, _, m2, _⟩ := Lay.list_open h
    cases e
    simp only [maxLen] at m2; omega
  clear h
  go_enter Tryz.func28, Tryz.ntmps28
  go_wp2_with (first
    | ((with_reducible refine' Wl.out ?_; apply k_box (ty := 24) (y := (.tmp 0)) hS); (· exact .mk); clear hS; intro w1 b1 hS)
    | ((with_reducible refine' Wl.out ?_; apply k_alloc (ty := 24) (dst := some 2) hS); (· exact .mk); clear hS; intro w2 b2 hS)
    | ((with_reducible refine' Wl.out ?_; apply k_alloc (ty := 50) (dst := some 4) hS); (· exact .mk); clear hS; intro w4 b4 hS)
    | ((with_reducible refine' Wl.out ?_; apply k_load hS); (· exact .mk))
    | ((with_reducible refine' Wl.out ?_; apply k_loads hS); (· exact .mk))
    | ((with_reducible refine' Wl.out ?_; apply k_store hS); (· exact .mk); clear hS; intro ws hS)
    | ((with_reducible refine' Wl.out ?_; apply k_storeR hS); (· exact .mk); clear hS; intro ws hS)
    | ((with_reducible refine' Wl.out ?_; apply k_stores hS); (· exact .mk); clear hS; intro ws hS)
    | (go_at_call 62; refine (itclone_c _ _ hS.inw _ HI.out).mono ?_; rintro e' w7 ⟨q7, c7, news7, rfl, hc7, hk7⟩; replace hS := hS.callOwn hk7; clear hk7; simp only [List.cons_append, List.nil_append] at hS))
  have HC := Lib.hid hc7
  clear hc7
  go_loopw [12] (fun vi wr => ∃ (k : Nat) (cells : List Value) (m' : Mem), k ≤ M.l.length ∧ vi = .int .i64 k ∧ m.Le m' ∧ CellsOf itL m' cells M.l ∧ St [] w m wr [.row 50 2 (.slice q7 M.l.length c7) M.l.length cells, .box b2 [.int .i64 0, .int .i64 0, .slice none 0 0], .box b1 [.int .i64 M.cap, .int .i64 M.dim, .slice q7 M.l.length c7]] m') (fun vi _ => M.l.length - (intOf vi).toNat)
  case atStart => exact ⟨0, news7, m, Nat.zero_le _, rfl, Mem.Le.refl _, HC.out, hS⟩
  case round =>
    clear hS
    obtain ⟨k, cells, m', hk, rfl, hle, hcells, hS⟩ := hrel
    by_cases hlt : k < M.l.length
    · obtain ⟨g, rfl, g1, g2⟩ := row_head (hS.row 0 rfl) (by omega)
      obtain ⟨q, c, hv, hk0, hk1, _, hset⟩ := item_parts hcells k hlt
      have hg' : ∀ j v, [.int .i64 (M.l.getD k itz).id, .slice q (M.l.getD k itz).v.length c][j]? = some v → cells[k * 2 + j]? = some v := fun j v hj => by
        match j, hj with
        | 0, hj => cases hj; exact hk0
        | 1, hj => cases hj; exact hk1
        | j + 2, hj => simp at hj
      have hl : k * 2 + 1 < cells.length := (List.getElem?_eq_some_iff.1 hk1).1
      have HV := Lib.hid hv
      have HL := Lib.hid hl
      have HS := Lib.hid hset
      have HB : Hid ((M.l.getD k itz).v.length * (Lay.int .i16).bytes ≤ 140737488355328) := by obtain ⟨_, _, e, _, _, h3, _⟩ := HV.out; cases e; exact h3
      have hkk : (k : Int) < M.l.length := by omega
      simp only [maxLen] at g2
      clear hk0 hk1 hv hset hcells hl
      generalize M.l.getD k itz = x at *
      go_wp2_with (first
    | ((with_reducible refine' Wl.out ?_; apply k_box (ty := 24) (y := (.tmp 0)) hS); (· exact .mk); clear hS; intro w1 b1 hS)
    | ((with_reducible refine' Wl.out ?_; apply k_alloc (ty := 24) (dst := some 2) hS); (· exact .mk); clear hS; intro w2 b2 hS)
    | ((with_reducible refine' Wl.out ?_; apply k_alloc (ty := 50) (dst := some 4) hS); (· exact .mk); clear hS; intro w4 b4 hS)
    | ((with_reducible refine' Wl.out ?_; apply k_load hS); (· exact .mk))
    | ((with_reducible refine' Wl.out ?_; apply k_loads hS); (· exact .mk))
    | ((with_reducible refine' Wl.out ?_; apply k_store hS); (· exact .mk); clear hS; intro ws hS)
    | ((with_reducible refine' Wl.out ?_; apply k_storeR hS); (· exact .mk); clear hS; intro ws hS)
    | ((with_reducible refine' Wl.out ?_; apply k_stores hS); (· exact .mk); clear hS; intro ws hS))
      replace hS := hS.drew
      refine startL (S := Sx _ [(b1, _), (b4, _)]) (by kernel_rfl) ((hS.sx0.cons hS (by (repeat constructor))).cons hS (by (repeat constructor))) (fun _ _ _ _ => trivial) (fun hHeld => ?_)
      focus (refine takeN 0 (v := ?_) rfl (by kernel_rfl) ?_ ?_; rotate_left; focus (intro w hSw; clear hSw; go_simp; try with_reducible rfl))
      try simp only [Act.put, nz1, nz2, nz3]
      refine takeN 1 rfl (by kernel_rfl) (yield_load rfl Tryz.underlying22 rfl rfl (by (first | (apply FindX.box; (· (repeat constructor)); rfl) | exact FindX.mem (by assumption)))) ?_
      try simp only [Act.put, nz1, nz2, nz3]
      focus (refine takeN 2 (v := ?_) rfl (by kernel_rfl) ?_ ?_; rotate_left; focus (intro w hSw; clear hSw; go_simp; try with_reducible rfl))
      try simp only [Act.put, nz1, nz2, nz3]
      focus (refine takeN 3 (v := ?_) rfl (by kernel_rfl) ?_ ?_; rotate_left; focus (intro w hSw; clear hSw; go_simp; try with_reducible rfl))
      try simp only [Act.put, nz1, nz2, nz3]
      refine takeN 4 rfl (by kernel_rfl) (yield_load rfl Tryz.underlying26 rfl rfl (by (first | (apply FindX.box; (· (repeat constructor)); rfl) | exact FindX.mem (by assumption)))) ?_
      try simp only [Act.put, nz1, nz2, nz3]
      refine wpAnyH_ready (rs := [5]) (by kernel_rfl) (by simp) ?_
      refine consL 5 rfl (fun K hK => ?_) AllReadyH.nil
      rw [if_pos (by rfl)]; go_simp; refine (vclone_c _ _ hS.inw _ HV.out).mono ?_; rintro e' w22 ⟨q22, c22, news22, rfl, hc22, hk22⟩; replace hS := hS.callOwn hk22; clear hk22; go_wp2_with fail
      refine hK.out _ _ (by first | exact ((hS.sx0.cons hS (by (repeat constructor))).cons hS (by (repeat constructor))) | exact Sx.le (by assumption) ((hS.sx0.cons hS (by (repeat constructor))).cons hS (by (repeat constructor)))) (fun hHeld => ?_)
      clear hK K
      try simp only [Act.put, nz1, nz2, nz3]
      focus (refine takeN 6 (v := ?_) rfl (by kernel_rfl) ?_ ?_; rotate_left; focus (intro w hSw; clear hSw; go_simp; try with_reducible rfl))
      try simp only [Act.put, nz1, nz2, nz3]
      focus (refine takeN 7 (v := ?_) rfl (by kernel_rfl) ?_ ?_; rotate_left; focus (intro w hSw; clear hSw; go_simp; try with_reducible rfl))
      try simp only [Act.put, nz1, nz2, nz3]
      refine wpAnyH_ready (rs := [8]) (by kernel_rfl) (by simp) ?_
      refine consL 8 rfl (fun K hK => ?_) AllReadyH.nil
      (with_reducible apply s_storeR hS); (· exact ⟨_, Tryz.underlying26, rfl, by kernel_rfl⟩); (· exact rfl); (· (first | (go_simp; done) | (go_simp; with_reducible rfl))); (· rfl); (· (repeat constructor)); (· exact HL.out); clear hS; intro ws hS
      refine hK.out _ _ (by first | exact ((hS.sx0.cons hS (by (repeat constructor))).cons hS (by (repeat constructor))) | exact Sx.le (by assumption) ((hS.sx0.cons hS (by (repeat constructor))).cons hS (by (repeat constructor)))) (fun hHeld => ?_)
      clear hK K
      try simp only [Act.put, nz1, nz2, nz3]
      refine wpAnyH_done (by kernel_rfl) ?_ _
      refine NoPanic.normal ?_
      go_wp2_with (first
    | ((with_reducible refine' Wl.out ?_; apply k_box (ty := 24) (y := (.tmp 0)) hS); (· exact .mk); clear hS; intro w1 b1 hS)
    | ((with_reducible refine' Wl.out ?_; apply k_alloc (ty := 24) (dst := some 2) hS); (· exact .mk); clear hS; intro w2 b2 hS)
    | ((with_reducible refine' Wl.out ?_; apply k_alloc (ty := 50) (dst := some 4) hS); (· exact .mk); clear hS; intro w4 b4 hS)
    | ((with_reducible refine' Wl.out ?_; apply k_load hS); (· exact .mk))
    | ((with_reducible refine' Wl.out ?_; apply k_loads hS); (· exact .mk))
    | ((with_reducible refine' Wl.out ?_; apply k_store hS); (· exact .mk); clear hS; intro ws hS)
    | ((with_reducible refine' Wl.out ?_; apply k_storeR hS); (· exact .mk); clear hS; intro ws hS)
    | ((with_reducible refine' Wl.out ?_; apply k_stores hS); (· exact .mk); clear hS; intro ws hS))
      go_roundw
      case rel =>
        obtain ⟨m2, hS2, hle2, hrd⟩ := hS.settleRow (L := Lay.int .i16) 0 rfl hc22 HB.out
        replace hS2 := hS2.forget (x := .box b4 _) (by (repeat constructor))
        exact ⟨k + 1, _, m2, hlt, by go_num, hle.trans hle2, HS.out m2 _ hle2 hrd, hS2⟩
      case measure => simp [intOf]; omega
    · obtain rfl : k = M.l.length := by omega
      have HG := Lib.hid hcells
      clear hcells
      go_wp2_with (first
    | ((with_reducible refine' Wl.out ?_; apply k_box (ty := 24) (y := (.tmp 0)) hS); (· exact .mk); clear hS; intro w1 b1 hS)
    | ((with_reducible refine' Wl.out ?_; apply k_alloc (ty := 24) (dst := some 2) hS); (· exact .mk); clear hS; intro w2 b2 hS)
    | ((with_reducible refine' Wl.out ?_; apply k_alloc (ty := 50) (dst := some 4) hS); (· exact .mk); clear hS; intro w4 b4 hS)
    | ((with_reducible refine' Wl.out ?_; apply k_load hS); (· exact .mk))
    | ((with_reducible refine' Wl.out ?_; apply k_loads hS); (· exact .mk))
    | ((with_reducible refine' Wl.out ?_; apply k_store hS); (· exact .mk); clear hS; intro ws hS)
    | ((with_reducible refine' Wl.out ?_; apply k_storeR hS); (· exact .mk); clear hS; intro ws hS)
    | ((with_reducible refine' Wl.out ?_; apply k_stores hS); (· exact .mk); clear hS; intro ws hS))
      refine ret_cell (n := 3) rfl rfl hS (by (repeat constructor)) (by rfl) rowT24 rfl ?_
      exact ⟨_, _, _, m', rfl, HG.out, (hS.forget (x := .box b1 _) (by (repeat constructor))).forget (x := .box b2 _) (by (repeat constructor))⟩
end Go.Proofs.YtnbhhdncbajkgaaGreatDoor
/- model.put. -/
namespace Go.Proofs.YtnbhhdncbajkgaaGreatDoor
set_option linter.unusedVariables false
set_option linter.unusedSimpArgs false
open Go.RowKit Go.Shelf
theorem St.rdOwn {α : Type} {L : Lay α} {X : List Nat} {w0 w : World} {m0 m : Mem} {es : List Ent} (hS : St X w0 m0 w es m) (k : Nat) {e : TypeId} {q : Option Addr} {n c : Nat} {cells : List Value} {xs : List α} (he : es[k]? = some (.row e L.n (.slice q n c) n cells)) (hn : xs.length = n) (hc : CellsOf L m cells xs) (hb : xs.length * L.bytes ≤ 140737488355328) : L.list.rd (World.mem w) [.slice q n c] xs := by
  obtain ⟨m', hS', _, hrd⟩ := St.settleRow' hS k hn he hc hb
  exact Lay.mono _ hS'.inw hrd
theorem item_set {m m' : Mem} {cells : List Value} {l : List It} (h : CellsOf itL m cells l) (k : Nat) (hk : k < l.length) (hle : m.Le m') {v' : Value} {y : List Int} (hr : vecL.rd m' [v'] y) : CellsOf itL m' (cells.set (k * 2 + 1) v') (l.set k ⟨(l.getD k itz).id, y⟩) := by
  have e : l.getD k itz = l[k] := by simp [List.getD, hk]
  rw [e]
  obtain ⟨css, rfl, h2, h3⟩ := h
  have hl := CellsOf.lens h2 h3
  have hk2 : css[k]? = some css[k] := List.getElem?_eq_getElem (by omega)
  obtain ⟨q, c, hcs, hp, hv⟩ := itL_open (h3 k _ _ hk2 (List.getElem?_eq_getElem hk))
  have hset := flatten_set css k 1 v' _ hl hk2 (by decide)
  refine ⟨css.set k (css[k].set 1 v'), hset, by simpa using h2, fun i cs x hi hx => ?_⟩
  rw [List.getElem?_set] at hi hx
  by_cases e2 : k = i
  · subst e2
    simp [show k < css.length by omega, hk] at hi hx
    subst hi hx
    rw [hcs]
    exact itL_mk (x := ⟨l[k].id, y⟩) hp hr
  · rw [if_neg e2] at hi hx
    exact Lay.mono _ hle (h3 i cs x hi hx)
theorem item_ins {m m' : Mem} {cells : List Value} {l : List It} (h : CellsOf itL m cells l) (i : Nat) (hle : m.Le m') {v' : Value} {x : It} (hp : InK .i64 x.id) (hr : vecL.rd m' [v'] x.v) : CellsOf itL m' (cells.take (i * 2) ++ [.int .i64 x.id, v'] ++ cells.drop (i * 2)) (l.take i ++ x :: l.drop i) := by
  have h1 := (h.mono hle).cut i
  have := (h1.1.append (CellsOf.one (itL_mk hp hr))).append h1.2
  have e : itL.n = 2 := rfl
  rw [e] at this
  simpa using this
/-- What put hands back. -/
def putE (kind cap : Int) (l : List It) (z : Int) : Int := if kind = 1 ∧ (getM l z).isSome = true then 6 else if (getM l z).isSome = false ∧ (l.length : Int) = cap then 7 else 0
def putR (kind cap : Int) (l : List It) (z : Int) (v : List Int) : List It := if putE kind cap l z = 0 then putL z v l else l
def PutR (X : List Nat) (w0 : World) (m0 m : Mem) (bM : Nat) (cap dim : Int) (E : Int) (l' : List It) (e : Ending) (w' : World) : Prop :=
  ∃ E' T q' c' cells' m', Hid (E' = E) ∧ Hid (T = l') ∧ e = .returned (.int .i64 E') ∧ Hid (m.Le m') ∧ Hid (CellsOf itL m' cells' T) ∧ St X w0 m0 w' [.box bM [.int .i64 cap, .int .i64 dim, .slice q' T.length c'], .row 50 2 (.slice q' T.length c') T.length cells'] m'
set_option maxRecDepth 100000 in
set_option maxHeartbeats 8000000 in
theorem put_c {X : List Nat} {w0 w : World} {m0 m : Mem} {bM : Nat} {cap dim : Int} {q : Option Addr} {c : Nat} {cells : List Value} {l : List It}
    (hS : St X w0 m0 w [.box bM [.int .i64 cap, .int .i64 dim, .slice q l.length c], .row 50 2 (.slice q l.length c) l.length cells] m) (hc : CellsOf itL m cells l) (hs : Ris l) (hn : l.length ≤ 256)
    (kind id kk seed : Int) (v : List Int) (qv : Option Addr) (cv : Nat) (hv : vecL.rd m [.slice qv v.length cv] v) (hid : InK .i64 id) :
    Calls Tryz.prog 30 #[.pointer (some ⟨bM, 0, none⟩), .agg #[.int .i64 kind, .int .i64 id, .int .i64 kk, .int .i64 seed, .slice qv v.length cv]] w (PutR X w0 m0 m bM cap dim (putE kind cap l id) (putR kind cap l id v)) := by
  have HC := Lib.hid hc
  have HSo := Lib.hid hs
  have HV := Lib.hid hv
  have HI := Lib.hid hid
  have hb1 : Hid (l.length * itL.bytes ≤ 140737488355328) := by show _ * 32 ≤ _; omega
  have hb2 : Hid (v.length * (Lay.int .i16).bytes ≤ 140737488355328) := by obtain ⟨_, _, e, _, _, h3, _⟩ := hv; cases e; exact h3
  have HN := Lib.hid hn
  clear hc hs hv hid hn
  go_enter Tryz.func30, Tryz.ntmps30
  go_wp2_with (first
    | ((with_reducible refine' Wl.out ?_; apply k_box (ty := 28) (y := (.tmp 1)) hS); (· exact .mk); clear hS; intro w3 b3 hS)
    | ((with_reducible refine' Wl.out ?_; apply k_load hS); (· exact .mk))
    | ((with_reducible refine' Wl.out ?_; apply k_loads hS); (· exact .mk))
    | go_skip
    | ((with_reducible refine' Wl.out ?_; apply kg_load hS); iterate 2 (· exact .mk))
    | ((with_reducible refine' Wl.out ?_; apply kg_loads hS); iterate 2 (· exact .mk))
    | ((with_reducible refine' Wl.out ?_; refine' wg_case ?_ ?_) <;> (intro hgW; (try (have hg2 := hgW; simp [go_sem] at hg2)); (first | (exfalso; assumption) | ((with_reducible refine' Wl.out ?_; apply k_no hgW)) | ((with_reducible refine' Wl.out ?_; apply kg_load hS ⟨hgW⟩); (· exact .mk)) | ((with_reducible refine' Wl.out ?_; apply kg_loads hS ⟨hgW⟩); (· exact .mk))); clear hgW))
    | ((with_reducible refine' Wl.out ?_; apply k_store hS); (· exact .mk); clear hS; intro ws hS)
    | ((with_reducible refine' Wl.out ?_; apply k_storeR hS); (· exact .mk); clear hS; intro ws hS))
  replace hS := hS.drew
  refine startL (S := Sx _ [(b3, _), (bM, _)]) (by kernel_rfl) ((hS.sx0.cons hS (by (repeat constructor))).cons hS (by (repeat constructor))) (fun _ _ _ _ => trivial) (fun hHeld => ?_)
  focus (refine takeN 0 (v := ?_) rfl (by kernel_rfl) ?_ ?_; rotate_left; focus (intro w hSw; clear hSw; go_simp; try with_reducible rfl))
  try simp only [Act.put, nz1, nz2, nz3]
  focus (refine takeN 1 (v := ?_) rfl (by kernel_rfl) ?_ ?_; rotate_left; focus (intro w hSw; clear hSw; go_simp; try with_reducible rfl))
  try simp only [Act.put, nz1, nz2, nz3]
  refine takeN 2 rfl (by kernel_rfl) (yield_loads rfl rowT24 rfl (by (first | (apply FindsX.box; (· (repeat constructor)); (· (repeat constructor)); done) | (refine FindsX.mem (by assumption) ?_; first | rfl | assumption | (simp; done))))) ?_
  try simp only [Act.put, nz1, nz2, nz3]
  focus (refine takeN 3 (v := ?_) rfl (by kernel_rfl) ?_ ?_; rotate_left; focus (intro w hSw; clear hSw; go_simp; try with_reducible rfl))
  try simp only [Act.put, nz1, nz2, nz3]
  refine takeN 4 rfl (by kernel_rfl) (yield_load rfl Tryz.underlying2 rfl rfl (by (first | (apply FindX.box; (· (repeat constructor)); rfl) | exact FindX.mem (by assumption)))) ?_
  try simp only [Act.put, nz1, nz2, nz3]
  refine wpAnyH_ready (rs := [5]) (by kernel_rfl) (by simp) ?_
  refine consL 5 rfl (fun K hK => ?_) AllReadyH.nil
  rw [if_pos (by rfl)]; go_simp; have hrd := St.rdOwn (L := itL) (xs := l) hS 2 rfl rfl HC.out hb1.out; refine (mfind_c (World.mem _) _ (World.mem_in _) _ _ _ _ l hrd HSo.out (Nat.le_trans HN.out (by decide)) _ rfl rfl).mono ?_; clear hrd; rintro e' w13 ⟨_, m13, rfl, ⟨i, B, hP, hB, rfl⟩, hk⟩; replace hS := hS.grow (grownBy_of_below hk.below); clear hk; go_wp2_with fail
  refine hK.out _ _ (by first | exact ((hS.sx0.cons hS (by (repeat constructor))).cons hS (by (repeat constructor))) | exact Sx.le (by assumption) ((hS.sx0.cons hS (by (repeat constructor))).cons hS (by (repeat constructor)))) (fun hHeld => ?_)
  clear hK K
  try simp only [Act.put, nz1, nz2, nz3]
  focus (refine takeN 6 (v := ?_) rfl (by kernel_rfl) ?_ ?_; rotate_left; focus (intro w hSw; clear hSw; go_simp; try with_reducible rfl))
  try simp only [Act.put, nz1, nz2, nz3]
  focus (refine takeN 7 (v := ?_) rfl (by kernel_rfl) ?_ ?_; rotate_left; focus (intro w hSw; clear hSw; go_simp; try with_reducible rfl))
  try simp only [Act.put, nz1, nz2, nz3]
  focus (refine takeN 8 (v := ?_) rfl (by kernel_rfl) ?_ ?_; rotate_left; focus (intro w hSw; clear hSw; go_simp; try with_reducible rfl))
  try simp only [Act.put, nz1, nz2, nz3]
  focus (refine takeN 9 (v := ?_) rfl (by kernel_rfl) ?_ ?_; rotate_left; focus (intro w hSw; clear hSw; go_simp; try with_reducible rfl))
  try simp only [Act.put, nz1, nz2, nz3]
  focus (refine takeN 10 (v := ?_) rfl (by kernel_rfl) ?_ ?_; rotate_left; focus (intro w hSw; clear hSw; go_simp; try with_reducible rfl))
  try simp only [Act.put, nz1, nz2, nz3]
  refine wpAnyH_done (by kernel_rfl) ?_ _
  refine NoPanic.normal ?_
  obtain ⟨a1, _, a3⟩ := pos_put (v := v) HSo.out hP.out
  have hbv := hB.out
  have HPos := hP
  clear hP hB
  cases B with
  | true =>
    have hcond := of_decide_eq_true hbv.symm
    rw [if_pos hcond] at a1 a3
    have hsome : (getM l id).isSome = true := by rw [a3]; rfl
    have HCo := Lib.hid hcond
    by_cases hk1 : kind = 1
    · have hE : Hid (putE kind cap l id = 6 ∧ putR kind cap l id v = l) := by
        have : putE kind cap l id = 6 := if_pos ⟨hk1, hsome⟩
        exact ⟨this, if_neg (by rw [this]; decide)⟩
      have hkq : (kind == 1) = true := by simp [hk1]
      clear hk1 hsome a1 a3 hcond hbv
      go_wp2_with (first
    | ((with_reducible refine' Wl.out ?_; apply k_box (ty := 28) (y := (.tmp 1)) hS); (· exact .mk); clear hS; intro w3 b3 hS)
    | ((with_reducible refine' Wl.out ?_; apply k_load hS); (· exact .mk))
    | ((with_reducible refine' Wl.out ?_; apply k_loads hS); (· exact .mk))
    | go_skip
    | ((with_reducible refine' Wl.out ?_; apply kg_load hS); iterate 2 (· exact .mk))
    | ((with_reducible refine' Wl.out ?_; apply kg_loads hS); iterate 2 (· exact .mk))
    | ((with_reducible refine' Wl.out ?_; refine' wg_case ?_ ?_) <;> (intro hgW; (try (have hg2 := hgW; simp [go_sem] at hg2)); (first | (exfalso; assumption) | ((with_reducible refine' Wl.out ?_; apply k_no hgW)) | ((with_reducible refine' Wl.out ?_; apply kg_load hS ⟨hgW⟩); (· exact .mk)) | ((with_reducible refine' Wl.out ?_; apply kg_loads hS ⟨hgW⟩); (· exact .mk))); clear hgW))
    | ((with_reducible refine' Wl.out ?_; apply k_store hS); (· exact .mk); clear hS; intro ws hS)
    | ((with_reducible refine' Wl.out ?_; apply k_storeR hS); (· exact .mk); clear hS; intro ws hS))
      go_ret
      exact ⟨6, l, q, c, cells, m, hE.out.1.symm, hE.out.2.symm, rfl, Mem.Le.refl _, HC, hS.forget (x := .box b3 _) (by (repeat constructor))⟩
    · have hE : Hid (putE kind cap l id = 0 ∧ putR kind cap l id v = l.set i ⟨id, v⟩) := by
        have : putE kind cap l id = 0 := by
          unfold putE
          rw [if_neg fun h => hk1 h.1, if_neg (by rw [hsome]; rintro ⟨h, _⟩; cases h)]
        exact ⟨this, by unfold putR; rw [if_pos this, a1]⟩
      have hkq : (kind == 1) = false := by simp [hk1]
      have hil : i < l.length := hcond.1
      obtain ⟨g, rfl, g1, g2⟩ := row_head (hS.row 2 rfl) (by omega)
      have HL : Hid (i * 2 + 1 < cells.length) := by have := (hS.row 2 rfl).1; show _ < _; omega
      have hiz : (i : Int) < l.length := by omega
      clear hk1 hsome a1 a3 hcond hbv hil
      simp only [maxLen] at g2
      go_wp2_with (first
    | ((with_reducible refine' Wl.out ?_; apply k_box (ty := 28) (y := (.tmp 1)) hS); (· exact .mk); clear hS; intro w3 b3 hS)
    | ((with_reducible refine' Wl.out ?_; apply k_load hS); (· exact .mk))
    | ((with_reducible refine' Wl.out ?_; apply k_loads hS); (· exact .mk))
    | go_skip
    | ((with_reducible refine' Wl.out ?_; apply kg_load hS); iterate 2 (· exact .mk))
    | ((with_reducible refine' Wl.out ?_; apply kg_loads hS); iterate 2 (· exact .mk))
    | ((with_reducible refine' Wl.out ?_; refine' wg_case ?_ ?_) <;> (intro hgW; (try (have hg2 := hgW; simp [go_sem] at hg2)); (first | (exfalso; assumption) | ((with_reducible refine' Wl.out ?_; apply k_no hgW)) | ((with_reducible refine' Wl.out ?_; apply kg_load hS ⟨hgW⟩); (· exact .mk)) | ((with_reducible refine' Wl.out ?_; apply kg_loads hS ⟨hgW⟩); (· exact .mk))); clear hgW))
    | ((with_reducible refine' Wl.out ?_; apply k_store hS); (· exact .mk); clear hS; intro ws hS)
    | ((with_reducible refine' Wl.out ?_; apply k_storeR hS); (· exact .mk); clear hS; intro ws hS))
      replace hS := hS.drew
      refine startL (S := Sx _ [(b3, _), (bM, _)]) (by kernel_rfl) ((hS.sx0.cons hS (by (repeat constructor))).cons hS (by (repeat constructor))) (fun _ _ _ _ => trivial) (fun hHeld => ?_)
      focus (refine takeN 0 (v := ?_) rfl (by kernel_rfl) ?_ ?_; rotate_left; focus (intro w hSw; clear hSw; go_simp; try with_reducible rfl))
      try simp only [Act.put, nz1, nz2, nz3]
      focus (refine takeN 1 (v := ?_) rfl (by kernel_rfl) ?_ ?_; rotate_left; focus (intro w hSw; clear hSw; go_simp; try with_reducible rfl))
      try simp only [Act.put, nz1, nz2, nz3]
      focus (refine takeN 2 (v := ?_) rfl (by kernel_rfl) ?_ ?_; rotate_left; focus (intro w hSw; clear hSw; go_simp; try with_reducible rfl))
      try simp only [Act.put, nz1, nz2, nz3]
      refine takeN 3 rfl (by kernel_rfl) (yield_load rfl Tryz.underlying22 rfl rfl (by (first | (apply FindX.box; (· (repeat constructor)); rfl) | exact FindX.mem (by assumption)))) ?_
      try simp only [Act.put, nz1, nz2, nz3]
      focus (refine takeN 4 (v := ?_) rfl (by kernel_rfl) ?_ ?_; rotate_left; focus (intro w hSw; clear hSw; go_simp; try with_reducible rfl))
      try simp only [Act.put, nz1, nz2, nz3]
      focus (refine takeN 5 (v := ?_) rfl (by kernel_rfl) ?_ ?_; rotate_left; focus (intro w hSw; clear hSw; go_simp; try with_reducible rfl))
      try simp only [Act.put, nz1, nz2, nz3]
      refine takeN 6 rfl (by kernel_rfl) (yield_load rfl Tryz.underlying26 rfl rfl (by (first | (apply FindX.box; (· (repeat constructor)); rfl) | exact FindX.mem (by assumption)))) ?_
      try simp only [Act.put, nz1, nz2, nz3]
      refine wpAnyH_ready (rs := [7]) (by kernel_rfl) (by simp) ?_
      refine consL 7 rfl (fun K hK => ?_) AllReadyH.nil
      rw [if_pos (by rfl)]; go_simp; refine (vclone_c _ _ hS.inw _ HV.out).mono ?_; rintro e' w48 ⟨q48, c48, news48, rfl, hc48, hk48⟩; replace hS := hS.callOwn hk48; clear hk48; go_wp2_with fail
      refine hK.out _ _ (by first | exact ((hS.sx0.cons hS (by (repeat constructor))).cons hS (by (repeat constructor))) | exact Sx.le (by assumption) ((hS.sx0.cons hS (by (repeat constructor))).cons hS (by (repeat constructor)))) (fun hHeld => ?_)
      clear hK K
      try simp only [Act.put, nz1, nz2, nz3]
      focus (refine takeN 8 (v := ?_) rfl (by kernel_rfl) ?_ ?_; rotate_left; focus (intro w hSw; clear hSw; go_simp; try with_reducible rfl))
      try simp only [Act.put, nz1, nz2, nz3]
      focus (refine takeN 9 (v := ?_) rfl (by kernel_rfl) ?_ ?_; rotate_left; focus (intro w hSw; clear hSw; go_simp; try with_reducible rfl))
      try simp only [Act.put, nz1, nz2, nz3]
      refine wpAnyH_ready (rs := [10]) (by kernel_rfl) (by simp) ?_
      refine consL 10 rfl (fun K hK => ?_) AllReadyH.nil
      (with_reducible apply s_storeR hS); (· exact ⟨_, Tryz.underlying26, rfl, by kernel_rfl⟩); (· exact rfl); (· (first | (go_simp; done) | (go_simp; with_reducible rfl))); (· rfl); (· (repeat constructor)); (· exact HL.out); clear hS; intro ws hS
      refine hK.out _ _ (by first | exact ((hS.sx0.cons hS (by (repeat constructor))).cons hS (by (repeat constructor))) | exact Sx.le (by assumption) ((hS.sx0.cons hS (by (repeat constructor))).cons hS (by (repeat constructor)))) (fun hHeld => ?_)
      clear hK K
      try simp only [Act.put, nz1, nz2, nz3]
      refine wpAnyH_done (by kernel_rfl) ?_ _
      refine NoPanic.normal ?_
      go_wp2_with (first
    | ((with_reducible refine' Wl.out ?_; apply k_box (ty := 28) (y := (.tmp 1)) hS); (· exact .mk); clear hS; intro w3 b3 hS)
    | ((with_reducible refine' Wl.out ?_; apply k_load hS); (· exact .mk))
    | ((with_reducible refine' Wl.out ?_; apply k_loads hS); (· exact .mk))
    | go_skip
    | ((with_reducible refine' Wl.out ?_; apply kg_load hS); iterate 2 (· exact .mk))
    | ((with_reducible refine' Wl.out ?_; apply kg_loads hS); iterate 2 (· exact .mk))
    | ((with_reducible refine' Wl.out ?_; refine' wg_case ?_ ?_) <;> (intro hgW; (try (have hg2 := hgW; simp [go_sem] at hg2)); (first | (exfalso; assumption) | ((with_reducible refine' Wl.out ?_; apply k_no hgW)) | ((with_reducible refine' Wl.out ?_; apply kg_load hS ⟨hgW⟩); (· exact .mk)) | ((with_reducible refine' Wl.out ?_; apply kg_loads hS ⟨hgW⟩); (· exact .mk))); clear hgW))
    | ((with_reducible refine' Wl.out ?_; apply k_store hS); (· exact .mk); clear hS; intro ws hS)
    | ((with_reducible refine' Wl.out ?_; apply k_storeR hS); (· exact .mk); clear hS; intro ws hS))
      go_ret
      obtain ⟨m2, hS2, hle2, hrd⟩ := hS.settleRow (L := Lay.int .i16) 0 rfl hc48 hb2.out
      have hci := item_set HC.out i HCo.out.1 hle2 hrd
      rw [HCo.out.2] at hci
      have hl : (l.set i ⟨id, v⟩).length = l.length := List.length_set
      exact ⟨0, l.set i ⟨id, v⟩, some ⟨g, 0, none⟩, c, _, m2, hE.out.1.symm, hE.out.2.symm, rfl, hle2, hci, by rw [hl]; exact hS2.forget (x := .box b3 _) (by (repeat constructor))⟩
  | false =>
    have hcond := of_decide_eq_false hbv.symm
    rw [if_neg hcond] at a1 a3
    have hnone : (getM l id).isSome = false := by rw [a3]; rfl
    by_cases hcap : (l.length : Int) = cap
    · have hE : Hid (putE kind cap l id = 7 ∧ putR kind cap l id v = l) := by
        have : putE kind cap l id = 7 := by
          unfold putE
          rw [if_neg (by rw [hnone]; rintro ⟨_, h⟩; cases h), if_pos ⟨hnone, hcap⟩]
        exact ⟨this, if_neg (by rw [this]; decide)⟩
      have hcq : ((l.length : Int) == cap) = true := by simp [hcap]
      clear hnone a1 a3 hcond hbv hcap
      go_wp2_with (first
    | ((with_reducible refine' Wl.out ?_; apply k_box (ty := 28) (y := (.tmp 1)) hS); (· exact .mk); clear hS; intro w3 b3 hS)
    | ((with_reducible refine' Wl.out ?_; apply k_load hS); (· exact .mk))
    | ((with_reducible refine' Wl.out ?_; apply k_loads hS); (· exact .mk))
    | go_skip
    | ((with_reducible refine' Wl.out ?_; apply kg_load hS); iterate 2 (· exact .mk))
    | ((with_reducible refine' Wl.out ?_; apply kg_loads hS); iterate 2 (· exact .mk))
    | ((with_reducible refine' Wl.out ?_; refine' wg_case ?_ ?_) <;> (intro hgW; (try (have hg2 := hgW; simp [go_sem] at hg2)); (first | (exfalso; assumption) | ((with_reducible refine' Wl.out ?_; apply k_no hgW)) | ((with_reducible refine' Wl.out ?_; apply kg_load hS ⟨hgW⟩); (· exact .mk)) | ((with_reducible refine' Wl.out ?_; apply kg_loads hS ⟨hgW⟩); (· exact .mk))); clear hgW))
    | ((with_reducible refine' Wl.out ?_; apply k_store hS); (· exact .mk); clear hS; intro ws hS)
    | ((with_reducible refine' Wl.out ?_; apply k_storeR hS); (· exact .mk); clear hS; intro ws hS))
      replace hS := hS.drew
      refine startL (S := Sx _ [(bM, _)]) (by kernel_rfl) (hS.sx0.cons hS (by (repeat constructor))) (fun _ _ _ _ => trivial) (fun hHeld => ?_)
      focus (refine takeN 0 (v := ?_) rfl (by kernel_rfl) ?_ ?_; rotate_left; focus (intro w hSw; clear hSw; go_simp; try with_reducible rfl))
      try simp only [Act.put, nz1, nz2, nz3]
      focus (refine takeN 1 (v := ?_) rfl (by kernel_rfl) ?_ ?_; rotate_left; focus (intro w hSw; clear hSw; go_simp; try with_reducible rfl))
      try simp only [Act.put, nz1, nz2, nz3]
      focus (refine takeN 2 (v := ?_) rfl (by kernel_rfl) ?_ ?_; rotate_left; focus (intro w hSw; clear hSw; go_simp; try with_reducible rfl))
      try simp only [Act.put, nz1, nz2, nz3]
      refine takeN 3 rfl (by kernel_rfl) (yield_load rfl Tryz.underlying22 rfl rfl (by (first | (apply FindX.box; (· (repeat constructor)); rfl) | exact FindX.mem (by assumption)))) ?_
      try simp only [Act.put, nz1, nz2, nz3]
      focus (refine takeN 4 (v := ?_) rfl (by kernel_rfl) ?_ ?_; rotate_left; focus (intro w hSw; clear hSw; go_simp; try with_reducible rfl))
      try simp only [Act.put, nz1, nz2, nz3]
      focus (refine takeN 5 (v := ?_) rfl (by kernel_rfl) ?_ ?_; rotate_left; focus (intro w hSw; clear hSw; go_simp; try with_reducible rfl))
      try simp only [Act.put, nz1, nz2, nz3]
      focus (refine takeN 6 (v := ?_) rfl (by kernel_rfl) ?_ ?_; rotate_left; focus (intro w hSw; clear hSw; go_simp; try with_reducible rfl))
      try simp only [Act.put, nz1, nz2, nz3]
      focus (refine takeN 7 (v := ?_) rfl (by kernel_rfl) ?_ ?_; rotate_left; focus (intro w hSw; clear hSw; go_simp; try with_reducible rfl))
      try simp only [Act.put, nz1, nz2, nz3]
      refine takeN 8 rfl (by kernel_rfl) (yield_load rfl Tryz.underlying3 rfl rfl (by (first | (apply FindX.box; (· (repeat constructor)); rfl) | exact FindX.mem (by assumption)))) ?_
      try simp only [Act.put, nz1, nz2, nz3]
      focus (refine takeN 9 (v := ?_) rfl (by kernel_rfl) ?_ ?_; rotate_left; focus (intro w hSw; clear hSw; go_simp; try with_reducible rfl))
      try simp only [Act.put, nz1, nz2, nz3]
      focus (refine takeN 10 (v := ?_) rfl (by kernel_rfl) ?_ ?_; rotate_left; focus (intro w hSw; clear hSw; go_simp; try with_reducible rfl))
      try simp only [Act.put, nz1, nz2, nz3]
      refine wpAnyH_done (by kernel_rfl) ?_ _
      refine NoPanic.normal ?_
      go_wp2_with (first
    | ((with_reducible refine' Wl.out ?_; apply k_box (ty := 28) (y := (.tmp 1)) hS); (· exact .mk); clear hS; intro w3 b3 hS)
    | ((with_reducible refine' Wl.out ?_; apply k_load hS); (· exact .mk))
    | ((with_reducible refine' Wl.out ?_; apply k_loads hS); (· exact .mk))
    | go_skip
    | ((with_reducible refine' Wl.out ?_; apply kg_load hS); iterate 2 (· exact .mk))
    | ((with_reducible refine' Wl.out ?_; apply kg_loads hS); iterate 2 (· exact .mk))
    | ((with_reducible refine' Wl.out ?_; refine' wg_case ?_ ?_) <;> (intro hgW; (try (have hg2 := hgW; simp [go_sem] at hg2)); (first | (exfalso; assumption) | ((with_reducible refine' Wl.out ?_; apply k_no hgW)) | ((with_reducible refine' Wl.out ?_; apply kg_load hS ⟨hgW⟩); (· exact .mk)) | ((with_reducible refine' Wl.out ?_; apply kg_loads hS ⟨hgW⟩); (· exact .mk))); clear hgW))
    | ((with_reducible refine' Wl.out ?_; apply k_store hS); (· exact .mk); clear hS; intro ws hS)
    | ((with_reducible refine' Wl.out ?_; apply k_storeR hS); (· exact .mk); clear hS; intro ws hS))
      go_ret
      exact ⟨7, l, q, c, cells, m, hE.out.1.symm, hE.out.2.symm, rfl, Mem.Le.refl _, HC, hS.forget (x := .box b3 _) (by (repeat constructor))⟩
    · have hE : Hid (putE kind cap l id = 0 ∧ putR kind cap l id v = l.take i ++ ⟨id, v⟩ :: l.drop i) := by
        have : putE kind cap l id = 0 := by
          unfold putE
          rw [if_neg (by rw [hnone]; rintro ⟨_, h⟩; cases h), if_neg fun h => hcap h.2]
        exact ⟨this, by unfold putR; rw [if_pos this, a1]⟩
      have hcq : ((l.length : Int) == cap) = false := by simp [hcap]
      have hil : Hid (i ≤ l.length) := HPos.out.1
      have H1 : Hid (∀ u ∈ cells, u.oneCell' = true) := CellsOf.one1 HC.out
      clear hnone a1 a3 hcond hbv hcap
      go_wp2_with (first
    | ((with_reducible refine' Wl.out ?_; apply k_box (ty := 28) (y := (.tmp 1)) hS); (· exact .mk); clear hS; intro w3 b3 hS)
    | ((with_reducible refine' Wl.out ?_; apply k_load hS); (· exact .mk))
    | ((with_reducible refine' Wl.out ?_; apply k_loads hS); (· exact .mk))
    | go_skip
    | ((with_reducible refine' Wl.out ?_; apply kg_load hS); iterate 2 (· exact .mk))
    | ((with_reducible refine' Wl.out ?_; apply kg_loads hS); iterate 2 (· exact .mk))
    | ((with_reducible refine' Wl.out ?_; refine' wg_case ?_ ?_) <;> (intro hgW; (try (have hg2 := hgW; simp [go_sem] at hg2)); (first | (exfalso; assumption) | ((with_reducible refine' Wl.out ?_; apply k_no hgW)) | ((with_reducible refine' Wl.out ?_; apply kg_load hS ⟨hgW⟩); (· exact .mk)) | ((with_reducible refine' Wl.out ?_; apply kg_loads hS ⟨hgW⟩); (· exact .mk))); clear hgW))
    | ((with_reducible refine' Wl.out ?_; apply k_store hS); (· exact .mk); clear hS; intro ws hS)
    | ((with_reducible refine' Wl.out ?_; apply k_storeR hS); (· exact .mk); clear hS; intro ws hS))
      replace hS := hS.drew
      refine startL (S := Sx _ [(bM, _)]) (by kernel_rfl) (hS.sx0.cons hS (by (repeat constructor))) (fun _ _ _ _ => trivial) (fun hHeld => ?_)
      focus (refine takeN 0 (v := ?_) rfl (by kernel_rfl) ?_ ?_; rotate_left; focus (intro w hSw; clear hSw; go_simp; try with_reducible rfl))
      try simp only [Act.put, nz1, nz2, nz3]
      focus (refine takeN 1 (v := ?_) rfl (by kernel_rfl) ?_ ?_; rotate_left; focus (intro w hSw; clear hSw; go_simp; try with_reducible rfl))
      try simp only [Act.put, nz1, nz2, nz3]
      focus (refine takeN 2 (v := ?_) rfl (by kernel_rfl) ?_ ?_; rotate_left; focus (intro w hSw; clear hSw; go_simp; try with_reducible rfl))
      try simp only [Act.put, nz1, nz2, nz3]
      refine takeN 3 rfl (by kernel_rfl) (yield_load rfl Tryz.underlying22 rfl rfl (by (first | (apply FindX.box; (· (repeat constructor)); rfl) | exact FindX.mem (by assumption)))) ?_
      try simp only [Act.put, nz1, nz2, nz3]
      focus (refine takeN 4 (v := ?_) rfl (by kernel_rfl) ?_ ?_; rotate_left; focus (intro w hSw; clear hSw; go_simp; try with_reducible rfl))
      try simp only [Act.put, nz1, nz2, nz3]
      focus (refine takeN 5 (v := ?_) rfl (by kernel_rfl) ?_ ?_; rotate_left; focus (intro w hSw; clear hSw; go_simp; try with_reducible rfl))
      try simp only [Act.put, nz1, nz2, nz3]
      focus (refine takeN 6 (v := ?_) rfl (by kernel_rfl) ?_ ?_; rotate_left; focus (intro w hSw; clear hSw; go_simp; try with_reducible rfl))
      try simp only [Act.put, nz1, nz2, nz3]
      focus (refine takeN 7 (v := ?_) rfl (by kernel_rfl) ?_ ?_; rotate_left; focus (intro w hSw; clear hSw; go_simp; try with_reducible rfl))
      try simp only [Act.put, nz1, nz2, nz3]
      refine takeN 8 rfl (by kernel_rfl) (yield_load rfl Tryz.underlying3 rfl rfl (by (first | (apply FindX.box; (· (repeat constructor)); rfl) | exact FindX.mem (by assumption)))) ?_
      try simp only [Act.put, nz1, nz2, nz3]
      focus (refine takeN 9 (v := ?_) rfl (by kernel_rfl) ?_ ?_; rotate_left; focus (intro w hSw; clear hSw; go_simp; try with_reducible rfl))
      try simp only [Act.put, nz1, nz2, nz3]
      focus (refine takeN 10 (v := ?_) rfl (by kernel_rfl) ?_ ?_; rotate_left; focus (intro w hSw; clear hSw; go_simp; try with_reducible rfl))
      try simp only [Act.put, nz1, nz2, nz3]
      refine wpAnyH_done (by kernel_rfl) ?_ _
      refine NoPanic.normal ?_
      go_wp2_with (first
    | ((with_reducible refine' Wl.out ?_; apply k_box (ty := 28) (y := (.tmp 1)) hS); (· exact .mk); clear hS; intro w3 b3 hS)
    | ((with_reducible refine' Wl.out ?_; apply k_load hS); (· exact .mk))
    | ((with_reducible refine' Wl.out ?_; apply k_loads hS); (· exact .mk))
    | go_skip
    | ((with_reducible refine' Wl.out ?_; apply kg_load hS); iterate 2 (· exact .mk))
    | ((with_reducible refine' Wl.out ?_; apply kg_loads hS); iterate 2 (· exact .mk))
    | ((with_reducible refine' Wl.out ?_; refine' wg_case ?_ ?_) <;> (intro hgW; (try (have hg2 := hgW; simp [go_sem] at hg2)); (first | (exfalso; assumption) | ((with_reducible refine' Wl.out ?_; apply k_no hgW)) | ((with_reducible refine' Wl.out ?_; apply kg_load hS ⟨hgW⟩); (· exact .mk)) | ((with_reducible refine' Wl.out ?_; apply kg_loads hS ⟨hgW⟩); (· exact .mk))); clear hgW))
    | ((with_reducible refine' Wl.out ?_; apply k_store hS); (· exact .mk); clear hS; intro ws hS)
    | ((with_reducible refine' Wl.out ?_; apply k_storeR hS); (· exact .mk); clear hS; intro ws hS))
      replace hS := hS.drew
      refine startL (S := Sx _ [(b3, _)]) (by kernel_rfl) (hS.sx0.cons hS (by (repeat constructor))) (fun _ _ _ _ => trivial) (fun hHeld => ?_)
      focus (refine takeN 0 (v := ?_) rfl (by kernel_rfl) ?_ ?_; rotate_left; focus (intro w hSw; clear hSw; go_simp; try with_reducible rfl))
      try simp only [Act.put, nz1, nz2, nz3]
      focus (refine takeN 1 (v := ?_) rfl (by kernel_rfl) ?_ ?_; rotate_left; focus (intro w hSw; clear hSw; go_simp; try with_reducible rfl))
      try simp only [Act.put, nz1, nz2, nz3]
      focus (refine takeN 2 (v := ?_) rfl (by kernel_rfl) ?_ ?_; rotate_left; focus (intro w hSw; clear hSw; go_simp; try with_reducible rfl))
      try simp only [Act.put, nz1, nz2, nz3]
      focus (refine takeN 3 (v := ?_) rfl (by kernel_rfl) ?_ ?_; rotate_left; focus (intro w hSw; clear hSw; go_simp; try with_reducible rfl))
      try simp only [Act.put, nz1, nz2, nz3]
      focus (refine takeN 5 (v := ?_) rfl (by kernel_rfl) ?_ ?_; rotate_left; focus (intro w hSw; clear hSw; go_simp; try with_reducible rfl))
      try simp only [Act.put, nz1, nz2, nz3]
      focus (refine takeN 6 (v := ?_) rfl (by kernel_rfl) ?_ ?_; rotate_left; focus (intro w hSw; clear hSw; go_simp; try with_reducible rfl))
      try simp only [Act.put, nz1, nz2, nz3]
      refine takeN 7 rfl (by kernel_rfl) (yield_load rfl Tryz.underlying2 rfl rfl (by (first | (apply FindX.box; (· (repeat constructor)); rfl) | exact FindX.mem (by assumption)))) ?_
      try simp only [Act.put, nz1, nz2, nz3]
      focus (refine takeN 8 (v := ?_) rfl (by kernel_rfl) ?_ ?_; rotate_left; focus (intro w hSw; clear hSw; go_simp; try with_reducible rfl))
      try simp only [Act.put, nz1, nz2, nz3]
      refine takeN 9 rfl (by kernel_rfl) (yield_load rfl Tryz.underlying26 rfl rfl (by (first | (apply FindX.box; (· (repeat constructor)); rfl) | exact FindX.mem (by assumption)))) ?_
      try simp only [Act.put, nz1, nz2, nz3]
      refine wpAnyH_ready (rs := [4, 10]) (by kernel_rfl) (by simp) ?_
      refine consL 4 rfl (fun K hK => ?_) (consL 10 rfl (fun K hK => ?_) AllReadyH.nil)
      rotate_right
      focus
        rw [if_pos (by rfl)]; go_simp; refine (vclone_c _ _ hS.inw _ HV.out).mono ?_; rintro e' w26 ⟨q26, c26, news26, rfl, hc26, hk26⟩; replace hS := hS.callOwn hk26; clear hk26; go_wp2_with fail
        refine hK.out _ _ (by first | exact (hS.sx0.cons hS (by (repeat constructor))) | exact Sx.le (by assumption) (hS.sx0.cons hS (by (repeat constructor)))) (fun hHeld => ?_)
        clear hK K
        try simp only [Act.put, nz1, nz2, nz3]
        focus (refine takeN 11 (v := ?_) rfl (by kernel_rfl) ?_ ?_; rotate_left; focus (intro w hSw; clear hSw; go_simp; try with_reducible rfl))
        try simp only [Act.put, nz1, nz2, nz3]
        refine wpAnyH_ready (rs := [4, 12]) (by kernel_rfl) (by simp) ?_
        refine consL 4 rfl (fun K hK => ?_) (consL 12 rfl (fun K hK => ?_) AllReadyH.nil)
        rotate_right
        focus
          (with_reducible apply s_lit el_item hS (cs := [.int .i64 id, .slice q26 v.length c26])); (· decide); (· decide); (· kernel_rfl); clear hS; intro w28 b28 hS
          refine hK.out _ _ (by first | exact (hS.sx0.cons hS (by (repeat constructor))) | exact Sx.le (by assumption) (hS.sx0.cons hS (by (repeat constructor)))) (fun hHeld => ?_)
          clear hK K
          try simp only [Act.put, nz1, nz2, nz3]
          refine wpAnyH_ready (rs := [4]) (by kernel_rfl) (by simp) ?_
          refine consL 4 rfl (fun K hK => ?_) AllReadyH.nil
          (with_reducible apply s_load hS); (· exact Tryz.underlying22); (· exact rfl); (· exact rfl); (· (first | (apply Find.box; (· (repeat constructor)); rfl) | exact Find.mem (by assumption) | (apply Find.row; (· (repeat constructor)); assumption)))
          refine hK.out _ _ (by first | exact (hS.sx0.cons hS (by (repeat constructor))) | exact Sx.le (by assumption) (hS.sx0.cons hS (by (repeat constructor)))) (fun hHeld => ?_)
          clear hK K
          try simp only [Act.put, nz1, nz2, nz3]
          refine wpAnyH_ready (rs := [13]) (by kernel_rfl) (by simp) ?_
          refine consL 13 rfl (fun K hK => ?_) AllReadyH.nil
          rw [if_pos (by rfl)]; go_simp; replace hS := (hS.front (x := .box b28 _) (by (repeat constructor))).front (x := .row 50 2 _ _ _) (by (repeat constructor)); refine (insert_c (St.sub (ls := [_, _]) hS) hil.out (Nat.le_trans HN.out (by decide)) (by simp [Value.oneCell']) H1.out).mono ?_; rintro e' w29 ⟨q29, c29, rfl, hk⟩; replace hS := St.lendL (ls := [_, _]) hS hk; clear hk; simp only [List.cons_append, List.nil_append] at hS; go_wp2_with fail
          refine hK.out _ _ (by first | exact (hS.sx0.cons hS (by (repeat constructor))) | exact Sx.le (by assumption) (hS.sx0.cons hS (by (repeat constructor)))) (fun hHeld => ?_)
          clear hK K
          try simp only [Act.put, nz1, nz2, nz3]
          focus (refine takeN 14 (v := ?_) rfl (by kernel_rfl) ?_ ?_; rotate_left; focus (intro w hSw; clear hSw; go_simp; try with_reducible rfl))
          try simp only [Act.put, nz1, nz2, nz3]
          focus (refine takeN 15 (v := ?_) rfl (by kernel_rfl) ?_ ?_; rotate_left; focus (intro w hSw; clear hSw; go_simp; try with_reducible rfl))
          try simp only [Act.put, nz1, nz2, nz3]
          refine wpAnyH_ready (rs := [16]) (by kernel_rfl) (by simp) ?_
          refine consL 16 rfl (fun K hK => ?_) AllReadyH.nil
          (with_reducible apply s_store hS); (· exact rowT22); (· exact rfl); (· (first | (go_simp; done) | (go_simp; with_reducible rfl))); (· (first | rfl | assumption | (simp [Value.oneCell']; done))); (· (repeat constructor)); (· (repeat constructor)); (· (repeat constructor)); clear hS; intro ws hS
          refine hK.out _ _ (by first | exact (hS.sx0.cons hS (by (repeat constructor))) | exact Sx.le (by assumption) (hS.sx0.cons hS (by (repeat constructor)))) (fun hHeld => ?_)
          clear hK K
          try simp only [Act.put, nz1, nz2, nz3]
          refine wpAnyH_done (by kernel_rfl) ?_ _
          refine NoPanic.normal ?_
        rotate_right
        focus
          (with_reducible apply s_load hS); (· exact Tryz.underlying22); (· exact rfl); (· exact rfl); (· (first | (apply Find.box; (· (repeat constructor)); rfl) | exact Find.mem (by assumption) | (apply Find.row; (· (repeat constructor)); assumption)))
          refine hK.out _ _ (by first | exact (hS.sx0.cons hS (by (repeat constructor))) | exact Sx.le (by assumption) (hS.sx0.cons hS (by (repeat constructor)))) (fun hHeld => ?_)
          clear hK K
          try simp only [Act.put, nz1, nz2, nz3]
          refine wpAnyH_ready (rs := [12]) (by kernel_rfl) (by simp) ?_
          refine consL 12 rfl (fun K hK => ?_) AllReadyH.nil
          (with_reducible apply s_lit el_item hS (cs := [.int .i64 id, .slice q26 v.length c26])); (· decide); (· decide); (· kernel_rfl); clear hS; intro w28 b28 hS
          refine hK.out _ _ (by first | exact (hS.sx0.cons hS (by (repeat constructor))) | exact Sx.le (by assumption) (hS.sx0.cons hS (by (repeat constructor)))) (fun hHeld => ?_)
          clear hK K
          try simp only [Act.put, nz1, nz2, nz3]
          refine wpAnyH_ready (rs := [13]) (by kernel_rfl) (by simp) ?_
          refine consL 13 rfl (fun K hK => ?_) AllReadyH.nil
          rw [if_pos (by rfl)]; go_simp; replace hS := (hS.front (x := .box b28 _) (by (repeat constructor))).front (x := .row 50 2 _ _ _) (by (repeat constructor)); refine (insert_c (St.sub (ls := [_, _]) hS) hil.out (Nat.le_trans HN.out (by decide)) (by simp [Value.oneCell']) H1.out).mono ?_; rintro e' w29 ⟨q29, c29, rfl, hk⟩; replace hS := St.lendL (ls := [_, _]) hS hk; clear hk; simp only [List.cons_append, List.nil_append] at hS; go_wp2_with fail
          refine hK.out _ _ (by first | exact (hS.sx0.cons hS (by (repeat constructor))) | exact Sx.le (by assumption) (hS.sx0.cons hS (by (repeat constructor)))) (fun hHeld => ?_)
          clear hK K
          try simp only [Act.put, nz1, nz2, nz3]
          focus (refine takeN 14 (v := ?_) rfl (by kernel_rfl) ?_ ?_; rotate_left; focus (intro w hSw; clear hSw; go_simp; try with_reducible rfl))
          try simp only [Act.put, nz1, nz2, nz3]
          focus (refine takeN 15 (v := ?_) rfl (by kernel_rfl) ?_ ?_; rotate_left; focus (intro w hSw; clear hSw; go_simp; try with_reducible rfl))
          try simp only [Act.put, nz1, nz2, nz3]
          refine wpAnyH_ready (rs := [16]) (by kernel_rfl) (by simp) ?_
          refine consL 16 rfl (fun K hK => ?_) AllReadyH.nil
          (with_reducible apply s_store hS); (· exact rowT22); (· exact rfl); (· (first | (go_simp; done) | (go_simp; with_reducible rfl))); (· (first | rfl | assumption | (simp [Value.oneCell']; done))); (· (repeat constructor)); (· (repeat constructor)); (· (repeat constructor)); clear hS; intro ws hS
          refine hK.out _ _ (by first | exact (hS.sx0.cons hS (by (repeat constructor))) | exact Sx.le (by assumption) (hS.sx0.cons hS (by (repeat constructor)))) (fun hHeld => ?_)
          clear hK K
          try simp only [Act.put, nz1, nz2, nz3]
          refine wpAnyH_done (by kernel_rfl) ?_ _
          refine NoPanic.normal ?_
      rotate_right
      focus
        (with_reducible apply s_load hS); (· exact Tryz.underlying22); (· exact rfl); (· exact rfl); (· (first | (apply Find.box; (· (repeat constructor)); rfl) | exact Find.mem (by assumption) | (apply Find.row; (· (repeat constructor)); assumption)))
        refine hK.out _ _ (by first | exact (hS.sx0.cons hS (by (repeat constructor))) | exact Sx.le (by assumption) (hS.sx0.cons hS (by (repeat constructor)))) (fun hHeld => ?_)
        clear hK K
        try simp only [Act.put, nz1, nz2, nz3]
        refine wpAnyH_ready (rs := [10]) (by kernel_rfl) (by simp) ?_
        refine consL 10 rfl (fun K hK => ?_) AllReadyH.nil
        rw [if_pos (by rfl)]; go_simp; refine (vclone_c _ _ hS.inw _ HV.out).mono ?_; rintro e' w26 ⟨q26, c26, news26, rfl, hc26, hk26⟩; replace hS := hS.callOwn hk26; clear hk26; go_wp2_with fail
        refine hK.out _ _ (by first | exact (hS.sx0.cons hS (by (repeat constructor))) | exact Sx.le (by assumption) (hS.sx0.cons hS (by (repeat constructor)))) (fun hHeld => ?_)
        clear hK K
        try simp only [Act.put, nz1, nz2, nz3]
        focus (refine takeN 11 (v := ?_) rfl (by kernel_rfl) ?_ ?_; rotate_left; focus (intro w hSw; clear hSw; go_simp; try with_reducible rfl))
        try simp only [Act.put, nz1, nz2, nz3]
        refine wpAnyH_ready (rs := [12]) (by kernel_rfl) (by simp) ?_
        refine consL 12 rfl (fun K hK => ?_) AllReadyH.nil
        (with_reducible apply s_lit el_item hS (cs := [.int .i64 id, .slice q26 v.length c26])); (· decide); (· decide); (· kernel_rfl); clear hS; intro w28 b28 hS
        refine hK.out _ _ (by first | exact (hS.sx0.cons hS (by (repeat constructor))) | exact Sx.le (by assumption) (hS.sx0.cons hS (by (repeat constructor)))) (fun hHeld => ?_)
        clear hK K
        try simp only [Act.put, nz1, nz2, nz3]
        refine wpAnyH_ready (rs := [13]) (by kernel_rfl) (by simp) ?_
        refine consL 13 rfl (fun K hK => ?_) AllReadyH.nil
        rw [if_pos (by rfl)]; go_simp; replace hS := (hS.front (x := .box b28 _) (by (repeat constructor))).front (x := .row 50 2 _ _ _) (by (repeat constructor)); refine (insert_c (St.sub (ls := [_, _]) hS) hil.out (Nat.le_trans HN.out (by decide)) (by simp [Value.oneCell']) H1.out).mono ?_; rintro e' w29 ⟨q29, c29, rfl, hk⟩; replace hS := St.lendL (ls := [_, _]) hS hk; clear hk; simp only [List.cons_append, List.nil_append] at hS; go_wp2_with fail
        refine hK.out _ _ (by first | exact (hS.sx0.cons hS (by (repeat constructor))) | exact Sx.le (by assumption) (hS.sx0.cons hS (by (repeat constructor)))) (fun hHeld => ?_)
        clear hK K
        try simp only [Act.put, nz1, nz2, nz3]
        focus (refine takeN 14 (v := ?_) rfl (by kernel_rfl) ?_ ?_; rotate_left; focus (intro w hSw; clear hSw; go_simp; try with_reducible rfl))
        try simp only [Act.put, nz1, nz2, nz3]
        focus (refine takeN 15 (v := ?_) rfl (by kernel_rfl) ?_ ?_; rotate_left; focus (intro w hSw; clear hSw; go_simp; try with_reducible rfl))
        try simp only [Act.put, nz1, nz2, nz3]
        refine wpAnyH_ready (rs := [16]) (by kernel_rfl) (by simp) ?_
        refine consL 16 rfl (fun K hK => ?_) AllReadyH.nil
        (with_reducible apply s_store hS); (· exact rowT22); (· exact rfl); (· (first | (go_simp; done) | (go_simp; with_reducible rfl))); (· (first | rfl | assumption | (simp [Value.oneCell']; done))); (· (repeat constructor)); (· (repeat constructor)); (· (repeat constructor)); clear hS; intro ws hS
        refine hK.out _ _ (by first | exact (hS.sx0.cons hS (by (repeat constructor))) | exact Sx.le (by assumption) (hS.sx0.cons hS (by (repeat constructor)))) (fun hHeld => ?_)
        clear hK K
        try simp only [Act.put, nz1, nz2, nz3]
        refine wpAnyH_done (by kernel_rfl) ?_ _
        refine NoPanic.normal ?_
      all_goals
        go_wp2_with (first
    | ((with_reducible refine' Wl.out ?_; apply k_box (ty := 28) (y := (.tmp 1)) hS); (· exact .mk); clear hS; intro w3 b3 hS)
    | ((with_reducible refine' Wl.out ?_; apply k_load hS); (· exact .mk))
    | ((with_reducible refine' Wl.out ?_; apply k_loads hS); (· exact .mk))
    | go_skip
    | ((with_reducible refine' Wl.out ?_; apply kg_load hS); iterate 2 (· exact .mk))
    | ((with_reducible refine' Wl.out ?_; apply kg_loads hS); iterate 2 (· exact .mk))
    | ((with_reducible refine' Wl.out ?_; refine' wg_case ?_ ?_) <;> (intro hgW; (try (have hg2 := hgW; simp [go_sem] at hg2)); (first | (exfalso; assumption) | ((with_reducible refine' Wl.out ?_; apply k_no hgW)) | ((with_reducible refine' Wl.out ?_; apply kg_load hS ⟨hgW⟩); (· exact .mk)) | ((with_reducible refine' Wl.out ?_; apply kg_loads hS ⟨hgW⟩); (· exact .mk))); clear hgW))
    | ((with_reducible refine' Wl.out ?_; apply k_store hS); (· exact .mk); clear hS; intro ws hS)
    | ((with_reducible refine' Wl.out ?_; apply k_storeR hS); (· exact .mk); clear hS; intro ws hS))
        go_ret
        replace hS := hS.forget (x := .box b3 _) (by (repeat constructor))
        replace hS := (((hS.front (x := .row 50 2 _ _ _) (by (repeat constructor))).front (x := .box bM _) (by (repeat constructor)))).front (x := .row 51 1 _ _ _) (by (repeat constructor))
        obtain ⟨m2, hS2, hle2, hrd⟩ := hS.settleRow (L := Lay.int .i16) 0 rfl hc26 hb2.out
        have hci := item_ins (x := ⟨id, v⟩) HC.out i hle2 HI.out hrd
        have hl : (l.take i ++ ⟨id, v⟩ :: l.drop i).length = l.length + 1 := by have := hil.out; simp; omega
        exact ⟨0, l.take i ++ ⟨id, v⟩ :: l.drop i, q29, c29, _, m2, hE.out.1.symm, hE.out.2.symm, rfl, hle2, hci, by rw [hl]; exact hS2⟩
end Go.Proofs.YtnbhhdncbajkgaaGreatDoor
/- Hits in memory; contracts of best.order, Less, odd. -/
namespace Go.Proofs.YtnbhhdncbajkgaaGreatDoor
set_option linter.unusedVariables false
set_option linter.unusedSimpArgs false
open Go.RowKit
def hitL : Lay Hit := ((Lay.int .i64).prod (Lay.int .i64)).by 16 fun h => (h.dist, h.id)
theorem hitL_open {m : Mem} {cs : List Value} {h : Hit} (hr : hitL.rd m cs h) : cs = [.int .i64 h.dist, .int .i64 h.id] ∧ InK .i64 h.dist ∧ InK .i64 h.id := by
  obtain ⟨c1, c2, rfl, ⟨rfl, h1⟩, rfl, h2⟩ := hr
  exact ⟨rfl, h1, h2⟩
theorem hitL_mk {m : Mem} {h : Hit} (h1 : InK .i64 h.dist) (h2 : InK .i64 h.id) : hitL.rd m [.int .i64 h.dist, .int .i64 h.id] h := ⟨[.int .i64 h.dist], [.int .i64 h.id], rfl, ⟨rfl, h1⟩, rfl, h2⟩
theorem el_hit : Elem Tryz.prog 34 86 2 16 (.agg #[.int .i64 0, .int .i64 0]) := ⟨Tryz.underlying34, by kernel_rfl, rfl, by decide⟩
theorem el_int : Elem Tryz.prog 169 3 1 8 (.int .i64 0) := ⟨Tryz.underlying169, by kernel_rfl, rfl, by decide⟩
/-- The first that is not 0. -/
def orI (x y : Int) : Int := if x = 0 then y else x
set_option maxRecDepth 100000 in
set_option maxHeartbeats 2000000 in
theorem or_c (m : Mem) (w : World) (hm : m.In w) (b : Nat) (x y : Int) (h0 : m ⟨b, 0, none⟩ = some (.int .i64 x)) (h1 : m ⟨b, 1, none⟩ = some (.int .i64 y)) :
    Calls Tryz.prog 110 #[.slice (some ⟨b, 0, none⟩) 2 2] w (Ret w m fun v _ => v = .int .i64 (orI x y)) := by
  have hS := St.start hm
  go_enter Tryz.func110, Tryz.ntmps110
  go_wp2
  refine wp_loop_rounds 3 ?_
  iterate 3 (all_goals first | (rw [rounds_succ]) | skip); (all_goals go_wp2_with (first 
    | ((with_reducible refine' Wl.out ?_; apply k_load hS); (· exact .mk))))
  all_goals (go_ret; exact ⟨_, m, rfl, by simp_all [orI], hS.done⟩)
def ordI (a b : Hit) : Int := orI (Lib.compareInt a.dist b.dist) (Lib.compareInt a.id b.id)
theorem ordI_lt (a b : Hit) : ordI a b < 0 ↔ a.lt b := by
  unfold ordI orI Lib.compareInt Hit.lt
  repeat' split
  all_goals omega
end Go.Proofs.YtnbhhdncbajkgaaGreatDoor
/- Contracts of best.order, Less, odd. -/
namespace Go.Proofs.YtnbhhdncbajkgaaGreatDoor
set_option linter.unusedVariables false
set_option linter.unusedSimpArgs false
open Go.RowKit
theorem vbool {a b : Bool} (h : a = b) : Value.bool a = Value.bool b := by rw [h]
set_option maxRecDepth 100000 in
set_option maxHeartbeats 2000000 in
theorem order_c (m : Mem) (w : World) (hm : m.In w) (x y : Hit) :
    Calls Tryz.prog 97 #[.agg #[.int .i64 x.dist, .int .i64 x.id], .agg #[.int .i64 y.dist, .int .i64 y.id]] w (Ret w m fun v _ => v = .int .i64 (ordI x y)) := by
  have hS := St.start hm
  go_enter Tryz.func97, Tryz.ntmps97
  go_wp2_with (first 
    | ((with_reducible refine' Wl.out ?_; apply k_box (ty := 86) (y := (.tmp 0)) hS); (· exact .mk); clear hS; intro w2 b2 hS)
    | ((with_reducible refine' Wl.out ?_; apply k_box (ty := 86) (y := (.tmp 1)) hS); (· exact .mk); clear hS; intro w3 b3 hS)
    | ((with_reducible refine' Wl.out ?_; apply k_load hS); (· exact .mk)))
  replace hS := hS.drew
  refine startL (S := Sx _ [(b2, _), (b3, _)]) (by kernel_rfl) ((hS.sx0.cons hS (by (repeat constructor))).cons hS (by (repeat constructor))) (fun _ _ _ _ => trivial) (fun hHeld => ?_)
  focus (refine takeN 0 (v := ?_) rfl (by kernel_rfl) ?_ ?_; rotate_left; focus (intro w hSw; clear hSw; go_simp; try with_reducible rfl))
  try simp only [Act.put, nz1, nz2, nz3]
  refine takeN 1 rfl (by kernel_rfl) (yield_load rfl Tryz.underlying2 rfl rfl (by (first | (apply FindX.box; (· (repeat constructor)); rfl) | exact FindX.mem (by assumption)))) ?_
  try simp only [Act.put, nz1, nz2, nz3]
  focus (refine takeN 2 (v := ?_) rfl (by kernel_rfl) ?_ ?_; rotate_left; focus (intro w hSw; clear hSw; go_simp; try with_reducible rfl))
  try simp only [Act.put, nz1, nz2, nz3]
  refine takeN 3 rfl (by kernel_rfl) (yield_load rfl Tryz.underlying2 rfl rfl (by (first | (apply FindX.box; (· (repeat constructor)); rfl) | exact FindX.mem (by assumption)))) ?_
  try simp only [Act.put, nz1, nz2, nz3]
  focus (refine takeN 5 (v := ?_) rfl (by kernel_rfl) ?_ ?_; rotate_left; focus (intro w hSw; clear hSw; go_simp; try with_reducible rfl))
  try simp only [Act.put, nz1, nz2, nz3]
  refine takeN 6 rfl (by kernel_rfl) (yield_load rfl Tryz.underlying2 rfl rfl (by (first | (apply FindX.box; (· (repeat constructor)); rfl) | exact FindX.mem (by assumption)))) ?_
  try simp only [Act.put, nz1, nz2, nz3]
  focus (refine takeN 7 (v := ?_) rfl (by kernel_rfl) ?_ ?_; rotate_left; focus (intro w hSw; clear hSw; go_simp; try with_reducible rfl))
  try simp only [Act.put, nz1, nz2, nz3]
  refine takeN 8 rfl (by kernel_rfl) (yield_load rfl Tryz.underlying2 rfl rfl (by (first | (apply FindX.box; (· (repeat constructor)); rfl) | exact FindX.mem (by assumption)))) ?_
  try simp only [Act.put, nz1, nz2, nz3]
  refine wpAnyH_ready (rs := [4]) (by kernel_rfl) (by simp) ?_
  refine consL 4 rfl (fun K hK => ?_) AllReadyH.nil
  rw [if_pos (by rfl)]; go_simp; refine (Tryz.cmp_Compare_int _ _ _).mono ?_; rintro e' w9 ⟨rfl, rfl⟩; go_wp2_with fail
  refine hK.out _ _ (by first | exact ((hS.sx0.cons hS (by (repeat constructor))).cons hS (by (repeat constructor))) | exact Sx.le (by assumption) ((hS.sx0.cons hS (by (repeat constructor))).cons hS (by (repeat constructor)))) (fun hHeld => ?_)
  clear hK K
  try simp only [Act.put, nz1, nz2, nz3]
  refine wpAnyH_ready (rs := [9]) (by kernel_rfl) (by simp) ?_
  refine consL 9 rfl (fun K hK => ?_) AllReadyH.nil
  rw [if_pos (by rfl)]; go_simp; refine (Tryz.cmp_Compare_int _ _ _).mono ?_; rintro e' w14 ⟨rfl, rfl⟩; go_wp2_with fail
  refine hK.out _ _ (by first | exact ((hS.sx0.cons hS (by (repeat constructor))).cons hS (by (repeat constructor))) | exact Sx.le (by assumption) ((hS.sx0.cons hS (by (repeat constructor))).cons hS (by (repeat constructor)))) (fun hHeld => ?_)
  clear hK K
  try simp only [Act.put, nz1, nz2, nz3]
  refine wpAnyH_ready (rs := [10]) (by kernel_rfl) (by simp) ?_
  refine consL 10 rfl (fun K hK => ?_) AllReadyH.nil
  (with_reducible apply s_lit el_int hS (cs := [.int .i64 (Lib.compareInt x.dist y.dist), .int .i64 (Lib.compareInt x.id y.id)])); (· decide); (· decide); (· kernel_rfl); clear hS; intro w15 b15 hS
  refine hK.out _ _ (by first | exact ((hS.sx0.cons hS (by (repeat constructor))).cons hS (by (repeat constructor))) | exact Sx.le (by assumption) ((hS.sx0.cons hS (by (repeat constructor))).cons hS (by (repeat constructor)))) (fun hHeld => ?_)
  clear hK K
  try simp only [Act.put, nz1, nz2, nz3]
  refine wpAnyH_ready (rs := [11]) (by kernel_rfl) (by simp) ?_
  refine consL 11 rfl (fun K hK => ?_) AllReadyH.nil
  rw [if_pos (by rfl)]; go_simp; refine (or_c (World.mem _) _ (World.mem_in _) b15 _ _ (hS.find (.box (by (repeat constructor)) rfl)) (hS.find (.box (by (repeat constructor)) rfl))).mono ?_; rintro e' w16 ⟨_, m16, rfl, rfl, hk⟩; replace hS := hS.grow (grownBy_of_below hk.below); clear hk; go_wp2_with fail
  refine hK.out _ _ (by first | exact ((hS.sx0.cons hS (by (repeat constructor))).cons hS (by (repeat constructor))) | exact Sx.le (by assumption) ((hS.sx0.cons hS (by (repeat constructor))).cons hS (by (repeat constructor)))) (fun hHeld => ?_)
  clear hK K
  try simp only [Act.put, nz1, nz2, nz3]
  focus (refine takeN 12 (v := ?_) rfl (by kernel_rfl) ?_ ?_; rotate_left; focus (intro w hSw; clear hSw; go_simp; try with_reducible rfl))
  try simp only [Act.put, nz1, nz2, nz3]
  refine wpAnyH_done (by kernel_rfl) ?_ _
  refine NoPanic.normal ?_
  all_goals (go_wp2_with fail; go_ret; exact ⟨_, m, rfl, rfl, hS.done⟩)
set_option maxRecDepth 100000 in
set_option maxHeartbeats 2000000 in
theorem less_c (m : Mem) (w : World) (hm : m.In w) (x y : Hit) :
    Calls Tryz.prog 103 #[.agg #[.int .i64 x.dist, .int .i64 x.id], .agg #[.int .i64 y.dist, .int .i64 y.id]] w (Ret w m fun v _ => v = .bool (decide (x.lt y))) := by
  have hS := St.start hm
  go_enter Tryz.func103, Tryz.ntmps103
  go_wp2_with (first 
    | ((with_reducible refine' Wl.out ?_; apply k_box (ty := 86) (y := (.tmp 0)) hS); (· exact .mk); clear hS; intro w2 b2 hS)
    | ((with_reducible refine' Wl.out ?_; apply k_box (ty := 86) (y := (.tmp 1)) hS); (· exact .mk); clear hS; intro w3 b3 hS)
    | ((with_reducible refine' Wl.out ?_; apply k_loads hS); (· exact .mk))
    | (go_at_call 97; refine (order_c _ _ hS.inw _ _).mono ?_; rintro e' w7 ⟨_, m7, rfl, rfl, hk⟩; replace hS := hS.call hk; clear hk))
  go_ret
  exact ⟨_, _, rfl, vbool (decide_eq_decide.2 (ordI_lt x y)), hS.done⟩
def oddB (h : Hit) : Bool := decide (h.dist < 0 ∨ h.id < 0 ∨ 2147483647 < h.id)
set_option maxRecDepth 100000 in
set_option maxHeartbeats 2000000 in
theorem odd_c (m : Mem) (w : World) (hm : m.In w) (x : Hit) :
    Calls Tryz.prog 89 #[.agg #[.int .i64 x.dist, .int .i64 x.id]] w (Ret w m fun v _ => v = .bool (oddB x)) := by
  have hS := St.start hm
  go_enter Tryz.func89, Tryz.ntmps89
  go_wp2_with (first 
    | ((with_reducible refine' Wl.out ?_; apply k_box hS); (· exact .mk); clear hS; intro _ _ hS)
    | ((with_reducible refine' Wl.out ?_; apply k_load hS); (· exact .mk))
    | go_skip
    | ((with_reducible refine' Wl.out ?_; apply kg_load hS); iterate 2 (· exact .mk))
    | ((with_reducible refine' Wl.out ?_; refine' wg_case ?_ ?_) <;> (intro hgW; (try (have hg2 := hgW; simp [go_sem] at hg2)); (first | (exfalso; assumption) | ((with_reducible refine' Wl.out ?_; apply k_no hgW)) | ((with_reducible refine' Wl.out ?_; apply kg_load hS ⟨hgW⟩); (· exact .mk))); clear hgW)))
  all_goals (go_ret; exact ⟨_, m, rfl, vbool (by simp_all [oddB, Bool.or_assoc]; try omega), hS.done⟩)
set_option maxRecDepth 100000 in
set_option maxHeartbeats 2000000 in
theorem same_id_c (m : Mem) (w : World) (hm : m.In w) (x h : Hit) (b : Nat) (hb : m ⟨b, 1, none⟩ = some (.int .i64 h.id)) :
    Calls Tryz.prog 91 #[.agg #[.int .i64 x.dist, .int .i64 x.id], .pointer (some ⟨b, 0, none⟩)] w (Ret w m fun v _ => v = .bool (decide (x.id = h.id))) := by
  have hS := St.start hm
  go_enter Tryz.func91, Tryz.ntmps91
  go_wp2_with (first 
    | ((with_reducible refine' Wl.out ?_; apply k_box (ty := 86) (y := (.tmp 0)) hS); (· exact .mk); clear hS; intro w2 b2 hS)
    | ((with_reducible refine' Wl.out ?_; apply k_load hS); (· exact .mk)))
  all_goals (go_ret; exact ⟨_, m, rfl, vbool (by first | rfl | (simp; done)), hS.done⟩)
end Go.Proofs.YtnbhhdncbajkgaaGreatDoor
/- A struct stored into a row of the call's own. -/
namespace Go.Proofs.YtnbhhdncbajkgaaGreatDoor
set_option linter.unusedVariables false
set_option linter.unusedSimpArgs false
open Go.RowKit
variable {ops : Array Oper} {P : Program} {X : List Nat} {w0 w : World} {m0 m : Mem} {es : List Ent} {o : Oper} {a : Act} {K : Act → World → Prop} {Q : Exit → Act → World → Prop}
/-- A part of a list is laid anew. -/
def lay (xs : List Value) (off : Nat) (vs : List Value) : List Value := xs.take off ++ vs ++ xs.drop (off + vs.length)
theorem lay_len {xs vs : List Value} {off : Nat} (h : off + vs.length ≤ xs.length) : (lay xs off vs).length = xs.length := by simp [lay]; omega
theorem setCells_row {e size n g c : Nat} : ∀ (vs : List Value) (w : World) (off : Nat) (xs : List Value), w.ownsRow 0 e size (.slice (some ⟨g, 0, none⟩) n c) n xs → off + vs.length ≤ xs.length →
    (w.setCells g off vs).ownsRow 0 e size (.slice (some ⟨g, 0, none⟩) n c) n (lay xs off vs) ∧ w.grownBy (w.setCells g off vs) (some g)
  | [], w, off, xs, h, hl => by
    refine ⟨?_, ⟨rfl, rfl, rfl, Nat.le_refl _, fun _ _ _ => rfl⟩⟩
    simpa [World.setCells, lay] using h
  | v :: vs, w, off, xs, h, hl => by
    simp only [List.length_cons] at hl
    have h1 := ownsRow_set0 h off v
    obtain ⟨h2, h3⟩ := setCells_row vs (w.setCell ⟨g, off, none⟩ v) (off + 1) (xs.set off v) h1 (by simp; omega)
    have hg := grownBy_setCell w ⟨g, off, none⟩ v
    refine ⟨?_, ⟨h3.os.trans hg.os, h3.tape.trans hg.tape, h3.output.trans hg.output, Nat.le_trans hg.size h3.size, fun k hk hn => (h3.block k (Nat.lt_of_lt_of_le hk hg.size) hn).trans (hg.block k hk hn)⟩⟩
    rw [World.setCells]
    have e : lay (xs.set off v) (off + 1) vs = lay xs off (v :: vs) := by
      unfold lay
      rw [List.length_cons, show off + (vs.length + 1) = off + 1 + vs.length by omega, List.drop_set_of_lt (by omega)]
      rw [List.take_succ_eq_append_getElem (by simp; omega), List.take_set_of_le (Nat.le_refl _)]
      simp
    rw [← e]
    exact h2
theorem op_storesR (hS : St X w0 m0 w es m) (ty : TypeId) (x y : Operand) (ho : o.op = .store ty x y) {g off : Nat} (hx : a.eval x = .pointer (some ⟨g, off, none⟩)) {vs : List Value} (hy : a.eval y = .agg vs.toArray) (h1 : ∀ v ∈ vs, v.oneCell' = true)
    (hn : (P.info? ty).map (·.size) = some vs.length) {e : TypeId} {size n c : Nat} {xs : List Value} {f : Value → Nat → List Value → List Ent} (hi : RowAt es e size (.slice (some ⟨g, 0, none⟩) n c) n xs f) (hl : off + vs.length ≤ xs.length)
    (h : ∀ w', St X w0 m0 w' (f (.slice (some ⟨g, 0, none⟩) n c) n (lay xs off vs)) m → K (a.put o.dst undef) w') : o.wp P a w K Q := by
  obtain ⟨i, hi1, hf⟩ := hi.at
  have hown := hS.row i hi1
  have hfr : ∀ j, w.frozen? ⟨g, j, none⟩ = false := by
    rcases hown.2 with ⟨e, _⟩ | ⟨g', cap, cur, e, hb, hg, _⟩
    · cases e
    · cases e; exact fun j => frozen_of_row _ _ _ _ _ hg
  obtain ⟨h2, h3⟩ := setCells_row vs w off xs hown hl
  refine wp_store_mid ty x y ho g off vs.toArray hx hy (fun j hj => ?_) (by simpa using hn) (all_oneCell_toArray h1) ?_
  · simp at hj
    have := hown.cells (g := g) rfl (off + j) _ (List.getElem?_eq_getElem (by omega))
    rw [Addr.add_lit, Nat.zero_add] at this
    exact ⟨by simp [this], hfr _⟩
  · refine h _ ?_
    rw [hf]
    exact hS.set i _ _ hi1 h3 h2 (fun _ h => .inl h)
section
variable {rest : List Oper} {dst : Option Tmp} {rt : TypeId} {pos : String} {af : Array Edge} {E : Prop}
theorem s_storesR {ty : TypeId} {x y : Operand} (hS : St X w0 m0 w es m) {k : Nat} (hn : ∃ d, P.underlying ty = some d ∧ d.isRow = true ∧ (P.info? ty).map (·.size) = some k) {g off : Nat} (hx : a.eval x = .pointer (some ⟨g, off, none⟩)) {vs : List Value} (hy : a.eval y = .agg vs.toArray) (hk : vs.length = k) (h1 : ∀ v ∈ vs, v.oneCell' = true)
    {e : TypeId} {size n c : Nat} {xs : List Value} {f : Value → Nat → List Value → List Ent} (hi : RowAt es e size (.slice (some ⟨g, 0, none⟩) n c) n xs f) (hl : off + vs.length ≤ xs.length)
    (h : ∀ w', St X w0 m0 w' (f (.slice (some ⟨g, 0, none⟩) n c) n (lay xs off vs)) m → K (a.put dst undef) w') : if Region.wanted ⟨dst, .store ty x y, rt, pos, af, none⟩ (yielded ops a.tmps) = true then Oper.wp P ⟨dst, .store ty x y, rt, pos, af, none⟩ a w K Q else E := by
  obtain ⟨d, _, _, hn⟩ := hn
  subst hk
  exact step_of rfl (op_storesR hS ty x y rfl hx hy h1 hn hi hl h)
theorem wl_storesR {ty : TypeId} {x y : Operand} (hS : St X w0 m0 w es m) {k : Nat} (hn : ∃ d, P.underlying ty = some d ∧ d.isRow = true ∧ (P.info? ty).map (·.size) = some k) {g off : Nat} (hx : a.eval x = .pointer (some ⟨g, off, none⟩)) {vs : List Value} (hy : a.eval y = .agg vs.toArray) (hk : vs.length = k) (h1 : ∀ v ∈ vs, v.oneCell' = true)
    {e : TypeId} {size n c : Nat} {xs : List Value} {f : Value → Nat → List Value → List Ent} (hi : RowAt es e size (.slice (some ⟨g, 0, none⟩) n c) n xs f) (hl : off + vs.length ≤ xs.length)
    (h : ∀ w', St X w0 m0 w' (f (.slice (some ⟨g, 0, none⟩) n c) n (lay xs off vs)) m → wpList P ops Q rest (a.put dst undef) w') : Wl P ops Q (⟨dst, .store ty x y, rt, pos, af, none⟩ :: rest) a w := by
  obtain ⟨d, _, _, hn⟩ := hn
  subst hk
  exact ⟨wpList_plain rfl fun K hK => op_storesR hS ty x y rfl hx hy h1 hn hi hl fun w' hw => hK _ _ (h w' hw)⟩
end
end Go.Proofs.YtnbhhdncbajkgaaGreatDoor
/- Hits in a row of the call's own: its cells; contracts of the methods of hits that look and change places. -/
namespace Go.Proofs.YtnbhhdncbajkgaaGreatDoor
set_option linter.unusedVariables false
set_option linter.unusedSimpArgs false
open Go.RowKit
def hitC (h : Hit) : List Value := [.int .i64 h.dist, .int .i64 h.id]
def cellsH (l : List Hit) : List Value := l.flatMap hitC
theorem cellsH_len (l : List Hit) : (cellsH l).length = l.length * 2 := by
  induction l with
  | nil => rfl
  | cons x l ih => simp only [cellsH, List.flatMap_cons, List.length_append, hitC, List.length_cons, List.length_nil] at ih ⊢; omega
theorem cellsH_get : ∀ (l : List Hit) (i : Nat), i < l.length → ∀ j v, (hitC (l.getD i hz))[j]? = some v → (cellsH l)[i * 2 + j]? = some v
  | [], i, h, _, _, _ => absurd h (Nat.not_lt_zero _)
  | x :: l, 0, h, j, v, hj => by
    have hl : j < 2 := by have := (List.getElem?_eq_some_iff.1 hj).1; simpa [hitC] using this
    simp only [cellsH, List.flatMap_cons, Nat.zero_mul, Nat.zero_add]
    rw [List.getElem?_append_left (by simpa [hitC] using hl)]
    simpa using hj
  | x :: l, i + 1, h, j, v, hj => by
    have := cellsH_get l i (by simpa using h) j v (by simpa using hj)
    simp only [cellsH, List.flatMap_cons]
    rw [List.getElem?_append_right (by simp [hitC]; omega)]
    rw [← this]
    simp only [cellsH, hitC, List.length_cons, List.length_nil]
    congr 1
    omega
theorem cellsH_lay (h : Hit) : ∀ (l : List Hit) (i : Nat), i < l.length → lay (cellsH l) (i * 2) (hitC h) = cellsH (l.set i h)
  | [], i, hi => absurd hi (Nat.not_lt_zero _)
  | x :: l, 0, hi => by simp [lay, cellsH, hitC]
  | x :: l, i + 1, hi => by
    have := cellsH_lay h l i (by simpa using hi)
    simp only [lay, cellsH, List.set_cons_succ, List.flatMap_cons] at this ⊢
    rw [← this]
    have e : (i + 1) * 2 = (hitC x).length + i * 2 := by simp [hitC]; omega
    rw [e, List.take_append, List.drop_append]
    simp only [Nat.add_sub_cancel_left]
    rw [List.take_of_length_le (Nat.le_add_right _ _), List.drop_eq_nil_of_le (by omega), show (hitC x).length + i * 2 + (hitC h).length - (hitC x).length = i * 2 + (hitC h).length by omega]
    simp
end Go.Proofs.YtnbhhdncbajkgaaGreatDoor
/- The methods of hits through heap.Interface: to which function a call leads. -/
namespace Go.Proofs.YtnbhhdncbajkgaaGreatDoor
set_option linter.unusedVariables false
set_option linter.unusedSimpArgs false
open Go.RowKit
theorem meth_load (b : Nat) (s : Value) (w : World) (h : w.cell? ⟨b, 0, none⟩ = some s) : (loadVar 130 ⟨b, 0, none⟩).run Tryz.prog w = .ok s w :=
  run_loadVar_one h Tryz.underlying130 rfl
theorem meth_len (n b : Nat) (s : Value) (w : World) (h : w.cell? ⟨b, 0, none⟩ = some s) : (method (n + 1) 132 (.pointer (some ⟨b, 0, none⟩)) "Len").run Tryz.prog w = .ok (159, s) w := by
  have h1 : (method (n + 1) 132 (.pointer (some ⟨b, 0, none⟩)) "Len").run Tryz.prog w = ((loadVar 130 ⟨b, 0, none⟩) >>= fun v => pure (159, v)).run Tryz.prog w := by kernel_rfl
  rw [h1, Sem.run_bind, meth_load b s w h]
  rfl
theorem meth_less (n b : Nat) (s : Value) (w : World) (h : w.cell? ⟨b, 0, none⟩ = some s) : (method (n + 1) 132 (.pointer (some ⟨b, 0, none⟩)) "Less").run Tryz.prog w = .ok (160, s) w := by
  have h1 : (method (n + 1) 132 (.pointer (some ⟨b, 0, none⟩)) "Less").run Tryz.prog w = ((loadVar 130 ⟨b, 0, none⟩) >>= fun v => pure (160, v)).run Tryz.prog w := by kernel_rfl
  rw [h1, Sem.run_bind, meth_load b s w h]
  rfl
theorem meth_swap (n b : Nat) (s : Value) (w : World) (h : w.cell? ⟨b, 0, none⟩ = some s) : (method (n + 1) 132 (.pointer (some ⟨b, 0, none⟩)) "Swap").run Tryz.prog w = .ok (161, s) w := by
  have h1 : (method (n + 1) 132 (.pointer (some ⟨b, 0, none⟩)) "Swap").run Tryz.prog w = ((loadVar 130 ⟨b, 0, none⟩) >>= fun v => pure (161, v)).run Tryz.prog w := by kernel_rfl
  rw [h1, Sem.run_bind, meth_load b s w h]
  rfl
theorem meth_push (n b : Nat) (w : World) : (method (n + 1) 132 (.pointer (some ⟨b, 0, none⟩)) "Push").run Tryz.prog w = .ok (163, .pointer (some ⟨b, 0, none⟩)) w := by kernel_rfl
theorem meth_pop (n b : Nat) (w : World) : (method (n + 1) 132 (.pointer (some ⟨b, 0, none⟩)) "Pop").run Tryz.prog w = .ok (162, .pointer (some ⟨b, 0, none⟩)) w := by kernel_rfl
end Go.Proofs.YtnbhhdncbajkgaaGreatDoor
/- Contracts of hits' Len and Less. -/
namespace Go.Proofs.YtnbhhdncbajkgaaGreatDoor
set_option linter.unusedVariables false
set_option linter.unusedSimpArgs false
open Go.RowKit
set_option maxRecDepth 100000 in
set_option maxHeartbeats 2000000 in
theorem hlen_c (w : World) (q : Option Addr) (n c : Nat) : Calls Tryz.prog 159 #[.slice q n c] w fun e w' => e = .returned (.int .i64 n) ∧ w' = w := by
  go_enter Tryz.func159, Tryz.ntmps159
  go_wp2
  go_ret
  exact ⟨rfl, rfl⟩
/-- The hits of a list lie in a row at g. -/
def HitsAt (w : World) (g : Nat) (l : List Hit) : Prop := ∀ j v, (cellsH l)[j]? = some v → w.cell? ⟨g, j, none⟩ = some v
theorem HitsAt.get {w : World} {g : Nat} {l : List Hit} (h : HitsAt w g l) (i : Nat) (hi : i < l.length) : ∀ j v, [Value.int .i64 (l.getD i hz).dist, .int .i64 (l.getD i hz).id][j]? = some v → (World.mem w) ⟨g, i * 2 + j, none⟩ = some v :=
  fun j v hj => h _ v (cellsH_get l i hi j v hj)
set_option maxRecDepth 100000 in
set_option maxHeartbeats 2000000 in
theorem hless_c (w : World) (g c : Nat) (l : List Hit) (hr : HitsAt w g l) (i k : Nat) (hi : i < l.length) (hk : k < l.length) :
    Calls Tryz.prog 160 #[.slice (some ⟨g, 0, none⟩) l.length c, .int .i64 i, .int .i64 k] w (Ret w (World.mem w) fun v _ => v = .bool (decide ((l.getD k hz).lt (l.getD i hz)))) := by
  have hS := St.start (World.mem_in w)
  have hI := hr.get i hi
  have hK := hr.get k hk
  generalize l.getD i hz = x at hI ⊢
  generalize l.getD k hz = y at hK ⊢
  have hi' : ¬ (l.length : Int) ≤ (i : Int) := by omega
  have hk' : ¬ (l.length : Int) ≤ (k : Int) := by omega
  clear hr
  go_enter Tryz.func160, Tryz.ntmps160
  go_wp2_with (first 
    | ((with_reducible refine' Wl.out ?_; apply k_loads hS); (· exact .mk)))
  replace hS := hS.drew
  refine startL (S := Sx _ []) (by kernel_rfl) hS.sx0 (fun _ _ _ _ => trivial) (fun hHeld => ?_)
  focus (refine takeN 0 (v := ?_) rfl (by kernel_rfl) ?_ ?_; rotate_left; focus (intro w hSw; clear hSw; go_simp; try with_reducible rfl))
  try simp only [Act.put, nz1, nz2, nz3]
  focus (refine takeN 1 (v := ?_) rfl (by kernel_rfl) ?_ ?_; rotate_left; focus (intro w hSw; clear hSw; go_simp; try with_reducible rfl))
  try simp only [Act.put, nz1, nz2, nz3]
  focus (refine takeN 2 (v := ?_) rfl (by kernel_rfl) ?_ ?_; rotate_left; focus (intro w hSw; clear hSw; go_simp; try with_reducible rfl))
  try simp only [Act.put, nz1, nz2, nz3]
  refine takeN 3 rfl (by kernel_rfl) (yield_loads rfl rowT86 rfl (by (first | (apply FindsX.box; (· (repeat constructor)); (· (repeat constructor)); done) | (refine FindsX.mem (by assumption) ?_; first | rfl | assumption | (simp; done))))) ?_
  try simp only [Act.put, nz1, nz2, nz3]
  focus (refine takeN 4 (v := ?_) rfl (by kernel_rfl) ?_ ?_; rotate_left; focus (intro w hSw; clear hSw; go_simp; try with_reducible rfl))
  try simp only [Act.put, nz1, nz2, nz3]
  focus (refine takeN 5 (v := ?_) rfl (by kernel_rfl) ?_ ?_; rotate_left; focus (intro w hSw; clear hSw; go_simp; try with_reducible rfl))
  try simp only [Act.put, nz1, nz2, nz3]
  focus (refine takeN 6 (v := ?_) rfl (by kernel_rfl) ?_ ?_; rotate_left; focus (intro w hSw; clear hSw; go_simp; try with_reducible rfl))
  try simp only [Act.put, nz1, nz2, nz3]
  refine takeN 7 rfl (by kernel_rfl) (yield_loads rfl rowT86 rfl (by (first | (apply FindsX.box; (· (repeat constructor)); (· (repeat constructor)); done) | (refine FindsX.mem (by assumption) ?_; first | rfl | assumption | (simp; done))))) ?_
  try simp only [Act.put, nz1, nz2, nz3]
  refine wpAnyH_ready (rs := [8]) (by kernel_rfl) (by simp) ?_
  refine consL 8 rfl (fun K hK => ?_) AllReadyH.nil
  rw [if_pos (by rfl)]; go_simp; refine (less_c _ _ hS.inw y x).mono ?_; rintro e' w15 ⟨_, m15, rfl, rfl, hk15⟩; replace hS := hS.call hk15; have hle := hk15.le; clear hk15; go_wp2_with fail
  refine hK.out _ _ (by first | exact hS.sx0 | exact Sx.le (by assumption) hS.sx0) (fun hHeld => ?_)
  clear hK K
  try simp only [Act.put, nz1, nz2, nz3]
  focus (refine takeN 9 (v := ?_) rfl (by kernel_rfl) ?_ ?_; rotate_left; focus (intro w hSw; clear hSw; go_simp; try with_reducible rfl))
  try simp only [Act.put, nz1, nz2, nz3]
  refine wpAnyH_done (by kernel_rfl) ?_ _
  refine NoPanic.normal ?_
  all_goals (go_wp2_with fail; go_ret; exact ⟨_, _, rfl, rfl, hS.done⟩)
end Go.Proofs.YtnbhhdncbajkgaaGreatDoor
/- Contract of hits' Swap. -/
namespace Go.Proofs.YtnbhhdncbajkgaaGreatDoor
set_option linter.unusedVariables false
set_option linter.unusedSimpArgs false
open Go.RowKit
theorem cellsH_lay' {l : List Hit} {i : Nat} (hi : i < l.length) (h : Hit) : lay (cellsH l) (i * 2) [.int .i64 h.dist, .int .i64 h.id] = cellsH (l.set i h) := cellsH_lay h l i hi
theorem rowGet {l : List Hit} (i : Nat) (hi : i < l.length) : ∀ j v, [Value.int .i64 (l.getD i hz).dist, .int .i64 (l.getD i hz).id][j]? = some v → (cellsH l)[i * 2 + j]? = some v := fun j v hj => cellsH_get l i hi j v hj
theorem lay_room {l : List Hit} {i : Nat} (hi : i < l.length) (h : Hit) : i * 2 + [Value.int .i64 h.dist, .int .i64 h.id].length ≤ (cellsH l).length := by rw [cellsH_len]; simp; omega
/-- Two stores, whichever comes first: two places change their hits. -/
theorem swap_one {l : List Hit} {i k : Nat} (hi : i < l.length) (hk : k < l.length) : lay (lay (cellsH l) (i * 2) [.int .i64 (l.getD k hz).dist, .int .i64 (l.getD k hz).id]) (k * 2) [.int .i64 (l.getD i hz).dist, .int .i64 (l.getD i hz).id] = cellsH (swapL l i k) := by
  rw [cellsH_lay' hi, cellsH_lay' (by simpa using hk)]
  rfl
abbrev rowH (g c : Nat) (n : Nat) (cs : List Value) : Ent := .row 86 2 (.slice (some ⟨g, 0, none⟩) n c) n cs
set_option maxRecDepth 100000 in
set_option maxHeartbeats 4000000 in
theorem hswap_c (X : List Nat) (w w0 : World) (m m0 : Mem) (g c : Nat) (l : List Hit) (hS : St X w0 m0 w [rowH g c l.length (cellsH l)] m) (i k : Nat) (hi : i < l.length) (hk : k < l.length) :
    Calls Tryz.prog 161 #[.slice (some ⟨g, 0, none⟩) l.length c, .int .i64 i, .int .i64 k] w fun e w' => e = .returned (.tuple #[]) ∧ St X w0 m0 w' [rowH g c l.length (cellsH (swapL l i k))] m := by
  have hI := rowGet i hi
  have hK := rowGet k hk
  have hE := Lib.hid (swap_one hi hk)
  have l1 := Lib.hid (lay_room hk (l.getD i hz))
  have l2 := Lib.hid (lay_room hi (l.getD k hz))
  have hi' : ¬ (l.length : Int) ≤ (i : Int) := by omega
  have hk' : ¬ (l.length : Int) ≤ (k : Int) := by omega
  generalize l.getD i hz = x at *
  generalize l.getD k hz = y at *
  go_enter Tryz.func161, Tryz.ntmps161
  go_wp2_with (first 
    | ((with_reducible refine' Wl.out ?_; apply k_loads hS); (· exact .mk))
    | ((with_reducible refine' Wl.out ?_; apply k_stores hS); (· exact .mk); clear hS; intro ws hS))
  replace hS := hS.drew
  refine startL (S := Sx _ []) (by kernel_rfl) hS.sx0 (fun _ _ _ _ => trivial) (fun hHeld => ?_)
  focus (refine takeN 0 (v := ?_) rfl (by kernel_rfl) ?_ ?_; rotate_left; focus (intro w hSw; clear hSw; go_simp; try with_reducible rfl))
  try simp only [Act.put, nz1, nz2, nz3]
  focus (refine takeN 1 (v := ?_) rfl (by kernel_rfl) ?_ ?_; rotate_left; focus (intro w hSw; clear hSw; go_simp; try with_reducible rfl))
  try simp only [Act.put, nz1, nz2, nz3]
  focus (refine takeN 2 (v := ?_) rfl (by kernel_rfl) ?_ ?_; rotate_left; focus (intro w hSw; clear hSw; go_simp; try with_reducible rfl))
  try simp only [Act.put, nz1, nz2, nz3]
  focus (refine takeN 3 (v := ?_) rfl (by kernel_rfl) ?_ ?_; rotate_left; focus (intro w hSw; clear hSw; go_simp; try with_reducible rfl))
  try simp only [Act.put, nz1, nz2, nz3]
  focus (refine takeN 4 (v := ?_) rfl (by kernel_rfl) ?_ ?_; rotate_left; focus (intro w hSw; clear hSw; go_simp; try with_reducible rfl))
  try simp only [Act.put, nz1, nz2, nz3]
  focus (refine takeN 5 (v := ?_) rfl (by kernel_rfl) ?_ ?_; rotate_left; focus (intro w hSw; clear hSw; go_simp; try with_reducible rfl))
  try simp only [Act.put, nz1, nz2, nz3]
  focus (refine takeN 6 (v := ?_) rfl (by kernel_rfl) ?_ ?_; rotate_left; focus (intro w hSw; clear hSw; go_simp; try with_reducible rfl))
  try simp only [Act.put, nz1, nz2, nz3]
  focus (refine takeN 8 (v := ?_) rfl (by kernel_rfl) ?_ ?_; rotate_left; focus (intro w hSw; clear hSw; go_simp; try with_reducible rfl))
  try simp only [Act.put, nz1, nz2, nz3]
  focus (refine takeN 9 (v := ?_) rfl (by kernel_rfl) ?_ ?_; rotate_left; focus (intro w hSw; clear hSw; go_simp; try with_reducible rfl))
  try simp only [Act.put, nz1, nz2, nz3]
  focus (refine takeN 10 (v := ?_) rfl (by kernel_rfl) ?_ ?_; rotate_left; focus (intro w hSw; clear hSw; go_simp; try with_reducible rfl))
  try simp only [Act.put, nz1, nz2, nz3]
  refine wpAnyH_ready (rs := [7, 11]) (by kernel_rfl) (by simp) ?_
  refine consL 7 rfl (fun K hK => ?_) (consL 11 rfl (fun K hK => ?_) AllReadyH.nil)
  rotate_right
  focus
    (with_reducible apply s_loads hS); (· exact rowT86); (· exact rfl); (· (first | (apply Finds.box; (· (repeat constructor)); (· (repeat constructor)); done) | (refine Finds.mem2 (by assumption) ?_; first | rfl | assumption | (simp; done)) | (apply Finds.row; (· (repeat constructor)); (· assumption); (· rfl))))
    refine hK.out _ _ (by first | exact hS.sx0 | exact Sx.le (by assumption) hS.sx0) (fun hHeld => ?_)
    clear hK K
    try simp only [Act.put, nz1, nz2, nz3]
    refine wpAnyH_ready (rs := [7]) (by kernel_rfl) (by simp) ?_
    refine consL 7 rfl (fun K hK => ?_) AllReadyH.nil
    (with_reducible apply s_loads hS); (· exact rowT86); (· exact rfl); (· (first | (apply Finds.box; (· (repeat constructor)); (· (repeat constructor)); done) | (refine Finds.mem2 (by assumption) ?_; first | rfl | assumption | (simp; done)) | (apply Finds.row; (· (repeat constructor)); (· assumption); (· rfl))))
    refine hK.out _ _ (by first | exact hS.sx0 | exact Sx.le (by assumption) hS.sx0) (fun hHeld => ?_)
    clear hK K
    try simp only [Act.put, nz1, nz2, nz3]
    focus (refine takeN 12 (v := ?_) rfl (by kernel_rfl) ?_ ?_; rotate_left; focus (intro w hSw; clear hSw; go_simp; try with_reducible rfl))
    try simp only [Act.put, nz1, nz2, nz3]
    refine wpAnyH_ready (rs := [13]) (by kernel_rfl) (by simp) ?_
    refine consL 13 rfl (fun K hK => ?_) AllReadyH.nil
    (with_reducible apply s_storesR hS rowT86); (· exact rfl); (· exact rfl); (· exact rfl); (· (first | assumption | (simp [Value.oneCell']; done))); (· (repeat constructor)); (· exact l2.out); clear hS; intro ws hS
    refine hK.out _ _ (by first | exact hS.sx0 | exact Sx.le (by assumption) hS.sx0) (fun hHeld => ?_)
    clear hK K
    try simp only [Act.put, nz1, nz2, nz3]
    focus (refine takeN 14 (v := ?_) rfl (by kernel_rfl) ?_ ?_; rotate_left; focus (intro w hSw; clear hSw; go_simp; try with_reducible rfl))
    try simp only [Act.put, nz1, nz2, nz3]
    refine wpAnyH_ready (rs := [15]) (by kernel_rfl) (by simp) ?_
    refine consL 15 rfl (fun K hK => ?_) AllReadyH.nil
    (with_reducible apply s_storesR hS rowT86); (· exact rfl); (· exact rfl); (· exact rfl); (· (first | assumption | (simp [Value.oneCell']; done))); (· (repeat constructor)); (· rw [lay_len l2.out]; exact l1.out); clear hS; intro ws hS
    refine hK.out _ _ (by first | exact hS.sx0 | exact Sx.le (by assumption) hS.sx0) (fun hHeld => ?_)
    clear hK K
    try simp only [Act.put, nz1, nz2, nz3]
    refine wpAnyH_done (by kernel_rfl) ?_ _
    refine NoPanic.normal ?_
  rotate_right
  focus
    (with_reducible apply s_loads hS); (· exact rowT86); (· exact rfl); (· (first | (apply Finds.box; (· (repeat constructor)); (· (repeat constructor)); done) | (refine Finds.mem2 (by assumption) ?_; first | rfl | assumption | (simp; done)) | (apply Finds.row; (· (repeat constructor)); (· assumption); (· rfl))))
    refine hK.out _ _ (by first | exact hS.sx0 | exact Sx.le (by assumption) hS.sx0) (fun hHeld => ?_)
    clear hK K
    try simp only [Act.put, nz1, nz2, nz3]
    refine wpAnyH_ready (rs := [11]) (by kernel_rfl) (by simp) ?_
    refine consL 11 rfl (fun K hK => ?_) AllReadyH.nil
    (with_reducible apply s_loads hS); (· exact rowT86); (· exact rfl); (· (first | (apply Finds.box; (· (repeat constructor)); (· (repeat constructor)); done) | (refine Finds.mem2 (by assumption) ?_; first | rfl | assumption | (simp; done)) | (apply Finds.row; (· (repeat constructor)); (· assumption); (· rfl))))
    refine hK.out _ _ (by first | exact hS.sx0 | exact Sx.le (by assumption) hS.sx0) (fun hHeld => ?_)
    clear hK K
    try simp only [Act.put, nz1, nz2, nz3]
    focus (refine takeN 12 (v := ?_) rfl (by kernel_rfl) ?_ ?_; rotate_left; focus (intro w hSw; clear hSw; go_simp; try with_reducible rfl))
    try simp only [Act.put, nz1, nz2, nz3]
    refine wpAnyH_ready (rs := [13]) (by kernel_rfl) (by simp) ?_
    refine consL 13 rfl (fun K hK => ?_) AllReadyH.nil
    (with_reducible apply s_storesR hS rowT86); (· exact rfl); (· exact rfl); (· exact rfl); (· (first | assumption | (simp [Value.oneCell']; done))); (· (repeat constructor)); (· exact l2.out); clear hS; intro ws hS
    refine hK.out _ _ (by first | exact hS.sx0 | exact Sx.le (by assumption) hS.sx0) (fun hHeld => ?_)
    clear hK K
    try simp only [Act.put, nz1, nz2, nz3]
    focus (refine takeN 14 (v := ?_) rfl (by kernel_rfl) ?_ ?_; rotate_left; focus (intro w hSw; clear hSw; go_simp; try with_reducible rfl))
    try simp only [Act.put, nz1, nz2, nz3]
    refine wpAnyH_ready (rs := [15]) (by kernel_rfl) (by simp) ?_
    refine consL 15 rfl (fun K hK => ?_) AllReadyH.nil
    (with_reducible apply s_storesR hS rowT86); (· exact rfl); (· exact rfl); (· exact rfl); (· (first | assumption | (simp [Value.oneCell']; done))); (· (repeat constructor)); (· rw [lay_len l2.out]; exact l1.out); clear hS; intro ws hS
    refine hK.out _ _ (by first | exact hS.sx0 | exact Sx.le (by assumption) hS.sx0) (fun hHeld => ?_)
    clear hK K
    try simp only [Act.put, nz1, nz2, nz3]
    refine wpAnyH_done (by kernel_rfl) ?_ _
    refine NoPanic.normal ?_
  all_goals (go_wp2_with fail; rw [hE.out] at hS; exact bodyPost_end (v := .tuple #[]) (by kernel_rfl) rfl ⟨rfl, hS⟩)
end Go.Proofs.YtnbhhdncbajkgaaGreatDoor
/- Contract of hits' Push. -/
namespace Go.Proofs.YtnbhhdncbajkgaaGreatDoor
set_option linter.unusedVariables false
set_option linter.unusedSimpArgs false
open Go.RowKit
theorem el_hits : Elem Tryz.prog 130 86 2 16 (.agg #[.int .i64 0, .int .i64 0]) := ⟨Tryz.underlying130, by kernel_rfl, rfl, by decide⟩
abbrev rowQ (q : Option Addr) (c n : Nat) (cs : List Value) : Ent := .row 86 2 (.slice q n c) n cs
theorem cellsH_snoc (l : List Hit) (h : Hit) : cellsH l ++ [.int .i64 h.dist, .int .i64 h.id] = cellsH (l ++ [h]) := by simp [cellsH, hitC]
set_option maxRecDepth 100000 in
set_option maxHeartbeats 4000000 in
theorem hpush_c (X : List Nat) (w w0 : World) (m m0 : Mem) (b : Nat) (q : Option Addr) (c : Nat) (l : List Hit) (h : Hit) (hS : St X w0 m0 w [.box b [.slice q l.length c], rowQ q c l.length (cellsH l)] m) (hl : l.length ≤ 1000) :
    Calls Tryz.prog 163 #[.pointer (some ⟨b, 0, none⟩), .iface 86 (.agg #[.int .i64 h.dist, .int .i64 h.id])] w fun e w' => e = .returned (.tuple #[]) ∧ ∃ q' c', St X w0 m0 w' [.box b [.slice q' (l.length + 1) c'], rowQ q' c' (l.length + 1) (cellsH (l ++ [h]))] m := by
  have ta : ∀ (t : TypeId) (w : World), (Instr.typeAssert (.iface 86 (.agg #[.int .i64 h.dist, .int .i64 h.id])) t 86 true).run Tryz.prog w = .ok (.tuple #[.agg #[.int .i64 h.dist, .int .i64 h.id], .bool true]) w := fun _ _ => by kernel_rfl
  go_enter Tryz.func163, Tryz.ntmps163
  go_wp2_with (first 
    | ((with_reducible refine' Wl.out ?_; apply k_alloc (ty := 86) (dst := some 4) hS); (· exact .mk); clear hS; intro w4 b4 hS)
    | ((with_reducible refine' Wl.out ?_; apply k_load hS); (· exact .mk))
    | ((with_reducible refine' Wl.out ?_; apply k_loads hS); (· exact .mk))
    | ((with_reducible refine' Wl.out ?_; apply k_store hS); (· exact .mk); clear hS; intro ws hS)
    | ((with_reducible refine' Wl.out ?_; apply k_storeR hS); (· exact .mk); clear hS; intro ws hS)
    | ((with_reducible refine' Wl.out ?_; apply k_stores hS); (· exact .mk); clear hS; intro ws hS))
  replace hS := hS.drew
  refine startL (S := Sx _ [(b4, _)]) (by kernel_rfl) (hS.sx0.cons hS (by (repeat constructor))) (fun _ _ _ _ => trivial) (fun hHeld => ?_)
  focus (refine takeN 0 (v := ?_) rfl (by kernel_rfl) ?_ ?_; rotate_left; focus (intro w hSw; clear hSw; go_simp; try with_reducible rfl))
  try simp only [Act.put, nz1, nz2, nz3]
  focus (refine takeN 1 (v := ?_) rfl (by kernel_rfl) ?_ ?_; rotate_left; focus (intro w hSw; clear hSw; go_simp; try with_reducible rfl))
  try simp only [Act.put, nz1, nz2, nz3]
  focus (refine takeN 2 (v := ?_) rfl (by kernel_rfl) ?_ ?_; rotate_left; focus (intro w hSw; clear hSw; go_simp; try with_reducible rfl))
  try simp only [Act.put, nz1, nz2, nz3]
  refine takeN 4 rfl (by kernel_rfl) (yield_loads rfl rowT86 rfl (by (first | (apply FindsX.box; (· (repeat constructor)); (· (repeat constructor)); done) | (refine FindsX.mem (by assumption) ?_; first | rfl | assumption | (simp; done))))) ?_
  try simp only [Act.put, nz1, nz2, nz3]
  refine wpAnyH_ready (rs := [3, 5]) (by kernel_rfl) (by simp) ?_
  refine consL 3 rfl (fun K hK => ?_) (consL 5 rfl (fun K hK => ?_) AllReadyH.nil)
  rotate_right
  focus
    (with_reducible apply s_lit el_hits hS (cs := [.int .i64 h.dist, .int .i64 h.id])); (· decide); (· decide); (· kernel_rfl); clear hS; intro w17 b17 hS
    refine hK.out _ _ (by first | exact (hS.sx0.cons hS (by (repeat constructor))) | exact Sx.le (by assumption) (hS.sx0.cons hS (by (repeat constructor)))) (fun hHeld => ?_)
    clear hK K
    try simp only [Act.put, nz1, nz2, nz3]
    refine wpAnyH_ready (rs := [3]) (by kernel_rfl) (by simp) ?_
    refine consL 3 rfl (fun K hK => ?_) AllReadyH.nil
    (with_reducible apply s_load hS); (· exact Tryz.underlying130); (· exact rfl); (· exact rfl); (· (first | (apply Find.box; (· (repeat constructor)); rfl) | exact Find.mem (by assumption) | (apply Find.row; (· (repeat constructor)); assumption)))
    refine hK.out _ _ (by first | exact (hS.sx0.cons hS (by (repeat constructor))) | exact Sx.le (by assumption) (hS.sx0.cons hS (by (repeat constructor)))) (fun hHeld => ?_)
    clear hK K
    try simp only [Act.put, nz1, nz2, nz3]
    refine wpAnyH_ready (rs := [6]) (by kernel_rfl) (by simp) ?_
    refine consL 6 rfl (fun K hK => ?_) AllReadyH.nil
    (with_reducible apply s_appendB el_hits hS (by decide)); (· exact rfl); (· (repeat constructor)); (· exact rfl); (· (repeat constructor)); (· rfl); (· simp [Value.oneCell']); (· omega); clear hS; intro w18 q18 c18 hS
    refine hK.out _ _ (by first | exact (hS.sx0.cons hS (by (repeat constructor))) | exact Sx.le (by assumption) (hS.sx0.cons hS (by (repeat constructor)))) (fun hHeld => ?_)
    clear hK K
    try simp only [Act.put, nz1, nz2, nz3]
    focus (refine takeN 7 (v := ?_) rfl (by kernel_rfl) ?_ ?_; rotate_left; focus (intro w hSw; clear hSw; go_simp; try with_reducible rfl))
    try simp only [Act.put, nz1, nz2, nz3]
    refine wpAnyH_ready (rs := [8]) (by kernel_rfl) (by simp) ?_
    refine consL 8 rfl (fun K hK => ?_) AllReadyH.nil
    (with_reducible apply s_store hS); (· exact rowT130); (· exact rfl); (· (first | (go_simp; done) | (go_simp; with_reducible rfl))); (· (first | rfl | assumption | (simp [Value.oneCell']; done))); (· (repeat constructor)); (· (repeat constructor)); (· (repeat constructor)); clear hS; intro ws hS
    refine hK.out _ _ (by first | exact (hS.sx0.cons hS (by (repeat constructor))) | exact Sx.le (by assumption) (hS.sx0.cons hS (by (repeat constructor)))) (fun hHeld => ?_)
    clear hK K
    try simp only [Act.put, nz1, nz2, nz3]
    refine wpAnyH_done (by kernel_rfl) ?_ _
    refine NoPanic.normal ?_
  rotate_right
  focus
    (with_reducible apply s_load hS); (· exact Tryz.underlying130); (· exact rfl); (· exact rfl); (· (first | (apply Find.box; (· (repeat constructor)); rfl) | exact Find.mem (by assumption) | (apply Find.row; (· (repeat constructor)); assumption)))
    refine hK.out _ _ (by first | exact (hS.sx0.cons hS (by (repeat constructor))) | exact Sx.le (by assumption) (hS.sx0.cons hS (by (repeat constructor)))) (fun hHeld => ?_)
    clear hK K
    try simp only [Act.put, nz1, nz2, nz3]
    refine wpAnyH_ready (rs := [5]) (by kernel_rfl) (by simp) ?_
    refine consL 5 rfl (fun K hK => ?_) AllReadyH.nil
    (with_reducible apply s_lit el_hits hS (cs := [.int .i64 h.dist, .int .i64 h.id])); (· decide); (· decide); (· kernel_rfl); clear hS; intro w17 b17 hS
    refine hK.out _ _ (by first | exact (hS.sx0.cons hS (by (repeat constructor))) | exact Sx.le (by assumption) (hS.sx0.cons hS (by (repeat constructor)))) (fun hHeld => ?_)
    clear hK K
    try simp only [Act.put, nz1, nz2, nz3]
    refine wpAnyH_ready (rs := [6]) (by kernel_rfl) (by simp) ?_
    refine consL 6 rfl (fun K hK => ?_) AllReadyH.nil
    (with_reducible apply s_appendB el_hits hS (by decide)); (· exact rfl); (· (repeat constructor)); (· exact rfl); (· (repeat constructor)); (· rfl); (· simp [Value.oneCell']); (· omega); clear hS; intro w18 q18 c18 hS
    refine hK.out _ _ (by first | exact (hS.sx0.cons hS (by (repeat constructor))) | exact Sx.le (by assumption) (hS.sx0.cons hS (by (repeat constructor)))) (fun hHeld => ?_)
    clear hK K
    try simp only [Act.put, nz1, nz2, nz3]
    focus (refine takeN 7 (v := ?_) rfl (by kernel_rfl) ?_ ?_; rotate_left; focus (intro w hSw; clear hSw; go_simp; try with_reducible rfl))
    try simp only [Act.put, nz1, nz2, nz3]
    refine wpAnyH_ready (rs := [8]) (by kernel_rfl) (by simp) ?_
    refine consL 8 rfl (fun K hK => ?_) AllReadyH.nil
    (with_reducible apply s_store hS); (· exact rowT130); (· exact rfl); (· (first | (go_simp; done) | (go_simp; with_reducible rfl))); (· (first | rfl | assumption | (simp [Value.oneCell']; done))); (· (repeat constructor)); (· (repeat constructor)); (· (repeat constructor)); clear hS; intro ws hS
    refine hK.out _ _ (by first | exact (hS.sx0.cons hS (by (repeat constructor))) | exact Sx.le (by assumption) (hS.sx0.cons hS (by (repeat constructor)))) (fun hHeld => ?_)
    clear hK K
    try simp only [Act.put, nz1, nz2, nz3]
    refine wpAnyH_done (by kernel_rfl) ?_ _
    refine NoPanic.normal ?_
  all_goals
    go_wp2_with fail
    go_end0
    rw [cellsH_snoc] at hS
    exact ⟨rfl, q18, c18, ((hS.forget (x := .box b17 _) (by (repeat constructor))).forget (x := .box b4 _) (by (repeat constructor))).front (x := .box b _) (by (repeat constructor))⟩
end Go.Proofs.YtnbhhdncbajkgaaGreatDoor
/- Contract of hits' Pop. -/
namespace Go.Proofs.YtnbhhdncbajkgaaGreatDoor
set_option linter.unusedVariables false
set_option linter.unusedSimpArgs false
open Go.RowKit
theorem ownsRow_take {w : World} {B size n g c k : Nat} {e : TypeId} {xs : List Value} (h : w.ownsRow B e size (.slice (some ⟨g, 0, none⟩) n c) n xs) (hk : k ≤ n) : w.ownsRow B e size (.slice (some ⟨g, 0, none⟩) k c) k (xs.take (k * size)) := by
  have hm : k * size ≤ n * size := Nat.mul_le_mul_right _ hk
  refine ⟨by rw [List.length_take, h.1]; omega, ?_⟩
  rcases h.2 with ⟨e, _⟩ | ⟨g', cap, cur, e, hb, hg, h1, h2, h3, h4⟩
  · cases e
  · cases e
    refine .inr ⟨g, c, cur, rfl, hb, hg, by omega, h2, h3, ?_⟩
    rw [← h4, List.take_take, Nat.min_eq_left hm]
theorem St.shrink {X : List Nat} {w0 w : World} {m0 m : Mem} {es : List Ent} (h : St X w0 m0 w es m) (i : Nat) {e : TypeId} {size n g c : Nat} {xs : List Value} (hi : es[i]? = some (.row e size (.slice (some ⟨g, 0, none⟩) n c) n xs)) (k : Nat) (hk : k ≤ n) :
    St X w0 m0 w (es.set i (.row e size (.slice (some ⟨g, 0, none⟩) k c) k (xs.take (k * size)))) m :=
  h.set i _ _ hi ⟨rfl, rfl, rfl, Nat.le_refl _, fun _ _ _ => rfl⟩ (ownsRow_take (h.row i hi) hk) fun _ h => .inl h
theorem cellsH_take (l : List Hit) (k : Nat) : (cellsH l).take (k * 2) = cellsH (l.take k) := by
  induction l generalizing k with
  | nil => simp [cellsH]
  | cons x l ih =>
    cases k with
    | zero => simp [cellsH]
    | succ k =>
      have := ih k
      simp only [cellsH, List.flatMap_cons, List.take_succ_cons] at this ⊢
      rw [← this, show (k + 1) * 2 = (hitC x).length + k * 2 by simp [hitC]; omega, List.take_append]
      simp
      exact List.take_of_length_le (by omega)
set_option maxRecDepth 100000 in
set_option maxHeartbeats 4000000 in
theorem hpop_c (X : List Nat) (w w0 : World) (m m0 : Mem) (b g c n : Nat) (l : List Hit) (hn : l.length = n + 1) (hS : St X w0 m0 w [.box b [.slice (some ⟨g, 0, none⟩) (n + 1) c], rowQ (some ⟨g, 0, none⟩) c (n + 1) (cellsH l)] m) (hl : n ≤ 1000) :
    Calls Tryz.prog 162 #[.pointer (some ⟨b, 0, none⟩)] w fun e w' => e = .returned (.iface 86 (.agg #[.int .i64 (l.getD n hz).dist, .int .i64 (l.getD n hz).id])) ∧ St X w0 m0 w' [.box b [.slice (some ⟨g, 0, none⟩) n c], rowQ (some ⟨g, 0, none⟩) c n (cellsH (l.take n))] m := by
  have hx := rowGet (l := l) n (by omega)
  generalize l.getD n hz = x at *
  have hc : Hid (n + 1 ≤ c ∧ c ≤ maxLen) := by
    rcases (hS.row 1 rfl).2 with ⟨e, _⟩ | ⟨g', cap, cur, e, _, _, h1, h2, _⟩
    · cases e
    · cases e; exact ⟨h1, h2⟩
  have h1 := hc.out.1
  have h2 : ¬ (c : Int) < (n : Int) := by omega
  have h3 : ¬ ((n + 1 : Nat) : Int) ≤ (n : Int) := by omega
  clear hn
  go_enter Tryz.func162, Tryz.ntmps162
  go_wp2_with (first 
    | ((with_reducible refine' Wl.out ?_; apply k_alloc hS); (· exact .mk); clear hS; intro _ _ hS)
    | ((with_reducible refine' Wl.out ?_; apply k_load hS); (· exact .mk))
    | ((with_reducible refine' Wl.out ?_; apply k_loads hS); (· exact .mk))
    | ((with_reducible refine' Wl.out ?_; apply k_store hS); (· exact .mk); clear hS; intro ws hS)
    | ((with_reducible refine' Wl.out ?_; apply k_storeR hS); (· exact .mk); clear hS; intro ws hS)
    | ((with_reducible refine' Wl.out ?_; apply k_stores hS); (· exact .mk); clear hS; intro ws hS))
  go_ret
  have h5 := (hS.shrink 2 rfl n (by omega)).drop _ (List.sublist_cons_self _ _)
  rw [cellsH_take] at h5
  exact ⟨rfl, h5⟩
end Go.Proofs.YtnbhhdncbajkgaaGreatDoor
