/- Lists of asks: how they lie; what ModelMap's map is to a model. -/
import Derived.Test.YtdeeclnjkjapcaaDoorMd21G
import Derived.Test.YtdeeclnjkjapcaaDoorMd22G
import Derived.Test.YtdeeclnjkjapcaaDoorG4
import Derived.Test.YtdeeclnjkjapcaaDoorMapVG
namespace Go.Proofs.YtdeeclnjkjapcaaDoor
set_option linter.unusedVariables false
set_option linter.unusedSimpArgs false
open Go.RowKit Go.Shelf
def akz : Ak := ⟨0, 0, 0, 0, []⟩
def akL : Lay Ak := (i64L.prod (i64L.prod (i64L.prod (i64L.prod vecL)))).by 56 fun a => (a.kind, a.id, a.k, a.seed, a.v)
theorem akL_open {m : Mem} {cs : List Value} {x : Ak} (h : akL.rd m cs x) : ∃ q c, cs = [.int .i64 x.kind, .int .i64 x.id, .int .i64 x.k, .int .i64 x.seed, .slice q x.v.length c] ∧ InK .i64 x.id ∧ InK .i64 x.seed ∧ vecL.rd m [.slice q x.v.length c] x.v := by
  obtain ⟨c1, c2, rfl, ⟨rfl, hk⟩, c3, c4, rfl, ⟨rfl, hk2⟩, c5, c6, rfl, ⟨rfl, hk3⟩, c7, c8, rfl, ⟨rfl, hk4⟩, h2⟩ := h
  have e2 := vecL.len h2
  match c8, e2 with
  | [v1], _ =>
    obtain ⟨q, c, rfl, _⟩ := Lay.list_open h2
    exact ⟨q, c, rfl, hk2, hk4, h2⟩
theorem Row.askAt {m : Mem} {p : Option Addr} {l : List Ak} (h : Row akL m p l) (i : Nat) (hi : i < l.length) : ∃ b o q c, p = some ⟨b, o, none⟩ ∧ (∀ j v, [Value.int .i64 (l.getD i akz).kind, .int .i64 (l.getD i akz).id, .int .i64 (l.getD i akz).k, .int .i64 (l.getD i akz).seed, .slice q (l.getD i akz).v.length c][j]? = some v → m ⟨b, o + i * 5 + j, none⟩ = some v) ∧ InK .i64 (l.getD i akz).id ∧ InK .i64 (l.getD i akz).seed ∧ vecL.rd m [.slice q (l.getD i akz).v.length c] (l.getD i akz).v := by
  obtain ⟨b, o, cs, hp, hcs, hc⟩ := h.get i hi
  have e : l.getD i akz = l[i] := by simp [List.getD, hi]
  obtain ⟨q, c, rfl, hk, hk2, hv⟩ := akL_open hcs
  rw [e]
  exact ⟨b, o, q, c, hp, hc, hk, hk2, hv⟩
/-- A map's vectors are a model's. -/
def LinkM (m : Mem) (f : Int → Option Value) (l : List It) : Prop := ∀ z, (f z = none ∧ getM l z = none) ∨ ∃ u v, f z = some u ∧ getM l z = some v ∧ vecL.rd m [u] v
theorem LinkM.nil (m : Mem) : LinkM m (fun _ => none) [] := fun z => .inl ⟨rfl, rfl⟩
theorem LinkM.mono {m m' : Mem} {f : Int → Option Value} {l : List It} (h : LinkM m f l) (hle : m.Le m') : LinkM m' f l := fun z => by
  rcases h z with h | ⟨u, v, h1, h2, h3⟩
  · exact .inl h
  · exact .inr ⟨u, v, h1, h2, Lay.mono _ hle h3⟩
theorem LinkM.sm {m : Mem} {f : Int → Option Value} {l : List It} (h : LinkM m f l) (z : Int) : (f z).isSome = (getM l z).isSome := by
  rcases h z with ⟨h1, h2⟩ | ⟨u, v, h1, h2, h3⟩ <;> rw [h1, h2] <;> rfl
theorem LinkM.at {m : Mem} {f : Int → Option Value} {l : List It} (h : LinkM m f l) {z : Int} {v : List Int} (hg : getM l z = some v) (d : Value) : (f z).isSome = true ∧ vecL.rd m [(f z).getD d] v := by
  rcases h z with ⟨h1, h2⟩ | ⟨u, v', h1, h2, h3⟩
  · rw [h2] at hg; cases hg
  · rw [h2] at hg
    cases hg
    rw [h1]
    exact ⟨rfl, h3⟩
theorem LinkM.put {m : Mem} {f : Int → Option Value} {l : List It} (h : LinkM m f l) (hs : Ris l) {z : Int} {u : Value} {v : List Int} (hu : vecL.rd m [u] v) : LinkM m (fun y => if y = z then .some u else f y) (putL z v l) := fun y => by
  rw [get_put hs]
  by_cases e : y = z
  · exact .inr ⟨u, v, by simp [e], by rw [if_pos e], hu⟩
  · simp only [e, if_false]; exact h y
theorem LinkM.del {m : Mem} {f : Int → Option Value} {l : List It} (h : LinkM m f l) (hs : Ris l) {z : Int} : LinkM m (fun y => if y = z then none else f y) (delL z l) := fun y => by
  rw [get_del hs]
  by_cases e : y = z
  · exact .inl ⟨by simp [e], by rw [if_pos e]⟩
  · simp only [e, if_false]; exact h y
theorem mm_case {M : Md} {a : Ak} (h : okM M) (k : okA a M.dim M.cap) :
    (a.kind = 1 ∧ (getM M.l a.id).isSome = true ∧ (doR M a).e = 6 ∧ doL M a = M.l) ∨
    ((a.kind = 1 ∨ a.kind = 2) ∧ (getM M.l a.id).isSome = false ∧ (M.l.length : Int) = M.cap ∧ (doR M a).e = 7 ∧ doL M a = M.l) ∨
    ((a.kind = 1 ∨ a.kind = 2) ∧ (getM M.l a.id).isSome = false ∧ (M.l.length : Int) ≠ M.cap ∧ (doR M a).e = 0 ∧ doL M a = putL a.id a.v M.l ∧ (doL M a).length = M.l.length + 1) ∨
    (a.kind = 2 ∧ (getM M.l a.id).isSome = true ∧ (doR M a).e = 0 ∧ doL M a = putL a.id a.v M.l ∧ (doL M a).length = M.l.length) ∨
    ((a.kind = 3 ∨ a.kind = 4) ∧ (getM M.l a.id).isSome = false ∧ (doR M a).e = 5 ∧ doL M a = M.l) ∨
    (a.kind = 3 ∧ (getM M.l a.id).isSome = true ∧ (doR M a).e = 0 ∧ doL M a = delL a.id M.l ∧ (doL M a).length = M.l.length - 1) ∨
    (a.kind = 4 ∧ (getM M.l a.id).isSome = true ∧ getM M.l a.id = some (doR M a).v ∧ (doR M a).e = 0 ∧ doL M a = M.l) ∨
    (a.kind = 6 ∧ (doR M a).e = 0 ∧ (doR M a).n = M.l.length ∧ doL M a = M.l) ∨
    ((a.kind = 5 ∨ a.kind = 7 ∨ a.kind = 8) ∧ (doR M a).e = 0 ∧ doL M a = M.l) := by
  have k1 := k.2.1
  have hs := h.2.2.2.1
  by_cases hp : a.kind = 1 ∨ a.kind = 2
  · have he := (doR_put (m := M) hp).1
    cases hg : (getM M.l a.id).isSome with
    | true =>
      rcases hp with h1 | h2
      · rw [if_pos ⟨h1, hg⟩] at he
        exact .inl ⟨h1, rfl, he, doL_same (by rw [he]; decide)⟩
      · rw [if_neg (by omega), if_neg (by rw [hg]; rintro ⟨h, _⟩; cases h)] at he
        have hl := doL_put (.inr h2) he
        refine .inr (.inr (.inr (.inl ⟨h2, rfl, he, hl, ?_⟩)))
        rw [hl, put_len hs, if_pos hg]
    | false =>
      rw [if_neg (by rw [hg]; rintro ⟨_, h⟩; cases h)] at he
      by_cases hc : (M.l.length : Int) = M.cap
      · rw [if_pos ⟨hg, hc⟩] at he
        exact .inr (.inl ⟨hp, rfl, hc, he, doL_same (by rw [he]; decide)⟩)
      · rw [if_neg fun h => hc h.2] at he
        have hl := doL_put hp he
        refine .inr (.inr (.inl ⟨hp, rfl, hc, he, hl, ?_⟩))
        rw [hl, put_len hs, if_neg (by rw [hg]; decide)]
  · by_cases h3 : a.kind = 3
    · have he := (doR_del (m := M) h3).1
      cases hg : (getM M.l a.id).isSome with
      | false =>
        rw [if_pos hg] at he
        exact .inr (.inr (.inr (.inr (.inl ⟨.inl h3, rfl, he, doL_same (by rw [he]; decide)⟩))))
      | true =>
        rw [if_neg (by rw [hg]; decide)] at he
        have hl := doL_del h3 he
        refine .inr (.inr (.inr (.inr (.inr (.inl ⟨h3, rfl, he, hl, ?_⟩)))))
        rw [hl, del_len, if_pos hg]
    · have hr := doL_read (m := M) (a := a) (by omega)
      by_cases h4 : a.kind = 4
      · have he := doR_get (m := M) h4
        cases hg : getM M.l a.id with
        | none =>
          rw [hg] at he
          exact .inr (.inr (.inr (.inr (.inl ⟨.inr h4, rfl, by rw [he], hr⟩))))
        | some v =>
          rw [hg] at he
          exact .inr (.inr (.inr (.inr (.inr (.inr (.inl ⟨h4, rfl, by rw [he], by rw [he]; rfl, hr⟩))))))
      · have e0 : (doR M a).e = 0 ∧ (a.kind = 6 → (doR M a).n = M.l.length) := by
          unfold doR
          rw [if_neg (by omega), if_neg (by rintro ⟨h, _⟩; omega), if_neg (by rintro ⟨h, _⟩; omega), if_neg h4]
          split
          · exact ⟨rfl, fun _ => by omega⟩
          · split
            · exact ⟨rfl, fun _ => rfl⟩
            · exact ⟨rfl, fun _ => by omega⟩
        by_cases h6 : a.kind = 6
        · exact .inr (.inr (.inr (.inr (.inr (.inr (.inr (.inl ⟨h6, e0.1, e0.2 h6, hr⟩)))))))
        · exact .inr (.inr (.inr (.inr (.inr (.inr (.inr (.inr ⟨by omega, e0.1, hr⟩)))))))
set_option maxRecDepth 100000 in
set_option maxHeartbeats 4000000 in
theorem mnew_c (m : Mem) (w : World) (hm : m.In w) (c : Int) (h1 : 1 ≤ c ∧ c ≤ 256) :
    Calls Tryd.prog 6 #[.int .i64 c, .int .i64 1] w (Ret w m fun v _ => v = .tuple #[.agg #[.int .i64 c, .int .i64 1, .slice none 0 0], .int .i64 0]) := by
  have hS := St.start hm
  have hc : Hid (chkM ⟨c, 1, []⟩ = 0) := if_pos ⟨h1, ⟨(by decide : (1 : Int) ≤ 1), (by decide : (1 : Int) ≤ 64)⟩, by simp; omega, List.Pairwise.nil, by simp⟩
  clear h1
  go_enter Tryd.func6, Tryd.ntmps6
  go_wp2_with (first
    | ((with_reducible refine' Wl.out ?_; apply k_alloc hS); (· exact .mk); clear hS; intro _ _ hS)
    | ((with_reducible refine' Wl.out ?_; apply k_loads hS); (· exact .mk))
    | ((with_reducible refine' Wl.out ?_; apply k_stores hS); (· exact .mk); clear hS; intro ws hS)
    | (go_at_call 9; refine (mcheck_c m _ hS.inw none 0 ⟨c, 1, []⟩ (Lay.nil_rd _ _)).mono ?_; rintro e' wq ⟨_, mq, rfl, rfl, hk⟩; replace hS := hS.grow (grownBy_of_below hk.below); clear hk; rw [hc.out]))
  refine ret_cell_tmp (n := 3) Tryd.results6 rfl hS (by (repeat constructor)) (by rfl) rowT26 rfl ?_
  exact ⟨_, m, rfl, rfl, hS.done⟩
end Go.Proofs.YtdeeclnjkjapcaaDoor
