/- Contracts and plain laws that the laws' proofs use, laid together (part 4). -/
import Derived.Test.YtnbhhdncbajkgaaGreatDoorG3
import Derived.Lib.Overlaps
/- ask.Check. -/
namespace Go.Proofs.YtnbhhdncbajkgaaGreatDoor
set_option linter.unusedVariables false
set_option linter.unusedSimpArgs false
open Go.RowKit Go.Shelf
def shI (k : Nat) : Int := if 1 ≤ k ∧ k ≤ 4 then 4 else 0
def shK (k : Nat) : Int := if k = 5 then 2 else 0
def shS (k : Nat) : Int := if k = 7 then 8 else 0
def shV (k : Nat) : Bool := decide (k = 1 ∨ k = 2 ∨ k = 5)
/-- The package's table of what each kind names lies there. -/
def ShAt (m : Mem) : Prop := ∀ k, k < 9 → ∀ j v, [Value.int .i64 (shI k), .int .i64 (shK k), .int .i64 (shS k), .bool (shV k)][j]? = some v → m ⟨0, k * 4 + j, none⟩ = some v
theorem ShAt.mono {m m' : Mem} (hm : m.Le m') (h : ShAt m) : ShAt m' := fun k hk j v hv => hm _ _ (h k hk j v hv)
def namedB (n wide least most : Int) : Bool := if wide = 0 then decide (n = 0) else decide (least ≤ n ∧ n ≤ most)
set_option maxRecDepth 100000 in
set_option maxHeartbeats 4000000 in
theorem awithin_c (m : Mem) (w : World) (hm : m.In w) (x y z : Int) :
    Calls Tryz.prog 60 #[.int .i64 x, .int .i64 y, .int .i64 z] w (Ret w m fun v _ => v = .bool (decide (y ≤ x ∧ x ≤ z))) := by
  have hS := St.start hm
  by_cases h0 : y ≤ x
  · go_enter Tryz.func60, Tryz.ntmps60
    go_wp2_with fail
    go_ret
    exact ⟨_, m, rfl, by simp [h0], hS⟩
  · go_enter Tryz.func60, Tryz.ntmps60
    go_wp2_with fail
    go_ret
    exact ⟨_, m, rfl, by simp [h0]; intro _; omega, hS⟩
set_option maxRecDepth 100000 in
set_option maxHeartbeats 4000000 in
theorem named_c (m : Mem) (w : World) (hm : m.In w) (n wide least most : Int) :
    Calls Tryz.prog 61 #[.int .i64 n, .int .i64 wide, .int .i64 least, .int .i64 most] w (Ret w m fun v _ => v = .bool (namedB n wide least most)) := by
  have hS := St.start hm
  by_cases h0 : wide = 0
  · have hR : Hid (namedB n wide least most = decide (n = 0)) := if_pos h0
    have h1 : (wide == 0) = true := by simp [h0]
    obtain ⟨R, hR2⟩ : ∃ R, R = decide (n = 0) := ⟨_, rfl⟩
    have hR3 : (n == 0) = R := by rw [hR2]; by_cases h : n = 0 <;> simp [h]
    rw [hR.out, ← hR2]
    clear h0 hR2 hR
    go_enter Tryz.func61, Tryz.ntmps61
    go_wp2_with fail
    go_ret
    exact ⟨_, m, rfl, by simp [hR3], hS⟩
  · have hR : Hid (namedB n wide least most = decide (least ≤ n ∧ n ≤ most)) := if_neg h0
    have h1 : (wide == 0) = false := by simp [h0]
    obtain ⟨R, hR2⟩ : ∃ R, R = decide (least ≤ n ∧ n ≤ most) := ⟨_, rfl⟩
    rw [hR.out, ← hR2]
    have HR := Lib.hid hR2
    clear h0 hR2 hR
    go_enter Tryz.func61, Tryz.ntmps61
    go_wp2_with (first
      | (go_at_call 60; refine (awithin_c m _ hS.inw _ _ _).mono ?_; rintro e' wq ⟨_, mq, rfl, rfl, hk⟩; replace hS := hS.grow (grownBy_of_below hk.below); clear hk; rw [← HR.out]))
    go_ret
    exact ⟨_, m, rfl, rfl, hS⟩
theorem okA_shape {k : Nat} (hk : 1 ≤ k ∧ k ≤ 8) {id kk seed : Int} {v : List Int} {D C : Int} (hsd : seed ≤ 9223372036854775807) (hs : (1 ≤ D ∧ D ≤ 64) ∧ 1 ≤ C ∧ C ≤ 256) :
    okA ⟨(k : Int), id, kk, seed, v⟩ D C ↔ (namedB id (shI k) 0 2147483647 = true ∧ namedB kk (shK k) 1 C = true ∧ namedB seed (shS k) 0 9223372036854775807 = true ∧ (if shV k = true then (v.length : Int) = D ∧ fineV v else v = [])) := by
  unfold okA namedB shI shK shS shV
  obtain ⟨h1, h2⟩ := hk
  have : k = 1 ∨ k = 2 ∨ k = 3 ∨ k = 4 ∨ k = 5 ∨ k = 6 ∨ k = 7 ∨ k = 8 := by omega
  rcases this with rfl | rfl | rfl | rfl | rfl | rfl | rfl | rfl <;> simp [hs, hsd] <;> (try omega) <;> (try (constructor <;> (intro h; refine ⟨?_, ?_, ?_, ?_⟩ <;> first | exact h.1 | exact h.2.1 | exact h.2.2.1 | exact h.2.2.2)))
set_option maxRecDepth 100000 in
set_option maxHeartbeats 8000000 in
theorem acheck_c (m : Mem) (w : World) (hm : m.In w) (hG : ShAt m) (kind id kk seed : Int) (v : List Int) (q : Option Addr) (c : Nat) (hv : vecL.rd m [.slice q v.length c] v) (hsd : seed ≤ 9223372036854775807) (D C : Int) :
    Calls Tryz.prog 27 #[.agg #[.int .i64 kind, .int .i64 id, .int .i64 kk, .int .i64 seed, .slice q v.length c], .int .i64 D, .int .i64 C] w (Ret w m fun x _ => x = .int .i64 (chkA ⟨kind, id, kk, seed, v⟩ D C)) := by
  have hS := St.start hm
  have A0 := Lib.hid hv
  clear hv
  have bad : ¬ okA ⟨kind, id, kk, seed, v⟩ D C → Hid (chkA ⟨kind, id, kk, seed, v⟩ D C = 1) := fun h => if_neg h
  by_cases d1 : ¬ ((1 ≤ D ∧ D ≤ 64) ∧ 1 ≤ C ∧ C ≤ 256)
  · have hE := bad fun o => d1 o.1
    have hW : Hid (decide (1 ≤ D ∧ D ≤ 64) = false ∨ decide (1 ≤ D ∧ D ≤ 64) = true ∧ decide (1 ≤ C ∧ C ≤ 256) = false) := by
      by_cases h : 1 ≤ D ∧ D ≤ 64
      · exact .inr ⟨decide_eq_true h, decide_eq_false fun k => d1 ⟨h, k⟩⟩
      · exact .inl (decide_eq_false h)
    clear bad d1
    rcases hW.out with h1 | ⟨h1, h2⟩
    all_goals
      have H1 := Lib.hid h1
      (try have H2 := Lib.hid h2)
      clear hW h1
      (try clear h2)
      go_enter Tryz.func27, Tryz.ntmps27
      go_wp2_with (first
    | ((with_reducible refine' Wl.out ?_; apply k_box hS); (· exact .mk); clear hS; intro _ _ hS)
    | ((with_reducible refine' Wl.out ?_; apply k_alloc hS); (· exact .mk); clear hS; intro _ _ hS)
    | ((with_reducible refine' Wl.out ?_; apply k_load hS); (· exact .mk))
    | ((with_reducible refine' Wl.out ?_; apply k_loads hS); (· exact .mk))
    | go_skip
    | ((with_reducible refine' Wl.out ?_; apply kg_load hS); iterate 2 (· exact .mk))
    | ((with_reducible refine' Wl.out ?_; apply kg_loads hS); iterate 2 (· exact .mk))
    | ((with_reducible refine' Wl.out ?_; refine' wg_case ?_ ?_) <;> (intro hgW; (try (have hg2 := hgW; simp [go_sem] at hg2)); (first | (exfalso; assumption) | ((with_reducible refine' Wl.out ?_; apply k_no hgW)) | ((with_reducible refine' Wl.out ?_; apply kg_load hS ⟨hgW⟩); (· exact .mk)) | ((with_reducible refine' Wl.out ?_; apply kg_loads hS ⟨hgW⟩); (· exact .mk))); clear hgW))
    | ((with_reducible refine' Wl.out ?_; apply k_stores hS); (· exact .mk); clear hS; intro ws hS)
        | (go_at_call 60; refine (awithin_c m _ hS.inw _ _ _).mono ?_; rintro e' wq ⟨_, mq, rfl, rfl, hk⟩; replace hS := hS.grow (grownBy_of_below hk.below); clear hk; (first | rw [H1.out] | rw [H2.out]))
        | go_in)
      go_ret
      exact ⟨_, m, rfl, by rw [hE.out]; rfl, hS.done⟩
  replace d1 := Classical.not_not.1 d1
  have H1 : Hid (decide (1 ≤ D ∧ D ≤ 64) = true) := decide_eq_true d1.1
  have H2 : Hid (decide (1 ≤ C ∧ C ≤ 256) = true) := decide_eq_true d1.2
  by_cases d2 : ¬ (1 ≤ kind ∧ kind ≤ 8)
  · have hE := bad fun o => d2 o.2.1
    have H3 : Hid (decide (1 ≤ kind ∧ kind ≤ 8) = false) := decide_eq_false d2
    clear bad d1 d2
    go_enter Tryz.func27, Tryz.ntmps27
    go_wp2_with (first
    | ((with_reducible refine' Wl.out ?_; apply k_box hS); (· exact .mk); clear hS; intro _ _ hS)
    | ((with_reducible refine' Wl.out ?_; apply k_alloc hS); (· exact .mk); clear hS; intro _ _ hS)
    | ((with_reducible refine' Wl.out ?_; apply k_load hS); (· exact .mk))
    | ((with_reducible refine' Wl.out ?_; apply k_loads hS); (· exact .mk))
    | go_skip
    | ((with_reducible refine' Wl.out ?_; apply kg_load hS); iterate 2 (· exact .mk))
    | ((with_reducible refine' Wl.out ?_; apply kg_loads hS); iterate 2 (· exact .mk))
    | ((with_reducible refine' Wl.out ?_; refine' wg_case ?_ ?_) <;> (intro hgW; (try (have hg2 := hgW; simp [go_sem] at hg2)); (first | (exfalso; assumption) | ((with_reducible refine' Wl.out ?_; apply k_no hgW)) | ((with_reducible refine' Wl.out ?_; apply kg_load hS ⟨hgW⟩); (· exact .mk)) | ((with_reducible refine' Wl.out ?_; apply kg_loads hS ⟨hgW⟩); (· exact .mk))); clear hgW))
    | ((with_reducible refine' Wl.out ?_; apply k_stores hS); (· exact .mk); clear hS; intro ws hS)
      | (go_at_call 60; refine (awithin_c m _ hS.inw _ _ _).mono ?_; rintro e' wq ⟨_, mq, rfl, rfl, hk⟩; replace hS := hS.grow (grownBy_of_below hk.below); clear hk; (first | rw [H1.out] | rw [H2.out] | rw [H3.out]))
      | go_in)
    go_ret
    exact ⟨_, m, rfl, by rw [hE.out]; rfl, hS.done⟩
  replace d2 := Classical.not_not.1 d2
  have H3 : Hid (decide (1 ≤ kind ∧ kind ≤ 8) = true) := decide_eq_true d2
  obtain ⟨k, hk⟩ : ∃ k : Nat, kind = k := ⟨kind.toNat, by omega⟩
  subst hk
  have hk8 : 1 ≤ k ∧ k ≤ 8 := by omega
  have hsh := okA_shape hk8 (id := id) (kk := kk) (v := v) hsd d1
  have hcell := hG k (by omega)
  have hkz : (k : Int) < 9 := by omega
  have hcase : Hid ((namedB id (shI k) 0 2147483647 = false ∧ chkA ⟨k, id, kk, seed, v⟩ D C = 1) ∨ (namedB id (shI k) 0 2147483647 = true ∧ namedB kk (shK k) 1 C = false ∧ chkA ⟨k, id, kk, seed, v⟩ D C = 1) ∨
      (namedB id (shI k) 0 2147483647 = true ∧ namedB kk (shK k) 1 C = true ∧ namedB seed (shS k) 0 9223372036854775807 = false ∧ chkA ⟨k, id, kk, seed, v⟩ D C = 1) ∨
      (namedB id (shI k) 0 2147483647 = true ∧ namedB kk (shK k) 1 C = true ∧ namedB seed (shS k) 0 9223372036854775807 = true ∧ (if shV k = true then (v.length : Int) = D ∧ fineV v ∧ chkA ⟨k, id, kk, seed, v⟩ D C = 0 ∨ ((v.length : Int) ≠ D ∨ (v.length : Int) = D ∧ ¬ fineV v) ∧ chkA ⟨k, id, kk, seed, v⟩ D C = 1 else v.length = 0 ∧ chkA ⟨k, id, kk, seed, v⟩ D C = 0 ∨ v.length ≠ 0 ∧ chkA ⟨k, id, kk, seed, v⟩ D C = 1))) := by
    have yes : okA ⟨k, id, kk, seed, v⟩ D C → chkA ⟨k, id, kk, seed, v⟩ D C = 0 := fun h => if_pos h
    have no : ¬ okA ⟨k, id, kk, seed, v⟩ D C → chkA ⟨k, id, kk, seed, v⟩ D C = 1 := fun h => if_neg h
    cases n1 : namedB id (shI k) 0 2147483647 with
    | false => exact .inl ⟨rfl, no fun h => by have := (hsh.1 h).1; rw [n1] at this; cases this⟩
    | true =>
      cases n2 : namedB kk (shK k) 1 C with
      | false => exact .inr (.inl ⟨rfl, rfl, no fun h => by have := (hsh.1 h).2.1; rw [n2] at this; cases this⟩)
      | true =>
        cases n3 : namedB seed (shS k) 0 9223372036854775807 with
        | false => exact .inr (.inr (.inl ⟨rfl, rfl, rfl, no fun h => by have := (hsh.1 h).2.2.1; rw [n3] at this; cases this⟩))
        | true =>
          refine .inr (.inr (.inr ⟨rfl, rfl, rfl, ?_⟩))
          rw [n1, n2, n3] at hsh
          split
          · rename_i hV
            rw [if_pos hV] at hsh
            by_cases g1 : (v.length : Int) = D
            · by_cases g2 : fineV v
              · exact .inl ⟨g1, g2, yes (hsh.2 ⟨rfl, rfl, rfl, g1, g2⟩)⟩
              · exact .inr ⟨.inr ⟨g1, g2⟩, no fun h => g2 (hsh.1 h).2.2.2.2⟩
            · exact .inr ⟨.inl g1, no fun h => g1 (hsh.1 h).2.2.2.1⟩
          · rename_i hV
            rw [if_neg hV] at hsh
            by_cases g1 : v.length = 0
            · exact .inl ⟨g1, yes (hsh.2 ⟨rfl, rfl, rfl, List.eq_nil_of_length_eq_zero g1⟩)⟩
            · exact .inr ⟨g1, no fun h => g1 (by rw [(hsh.1 h).2.2.2]; rfl)⟩
  clear hsh bad d1 d2 hk8 hG
  generalize chkA ⟨k, id, kk, seed, v⟩ D C = R at *
  generalize shI k = s1 at *
  generalize shK k = s2 at *
  generalize shS k = s3 at *
  generalize shV k = V at *
  rcases hcase.out with ⟨n1, rfl⟩ | ⟨n1, n2, rfl⟩ | ⟨n1, n2, n3, rfl⟩ | ⟨n1, n2, n3, hV⟩
  · have N1 := Lib.hid n1
    clear hcase n1
    cases V
    all_goals
      go_enter Tryz.func27, Tryz.ntmps27
      go_wp2_with (first
    | ((with_reducible refine' Wl.out ?_; apply k_box hS); (· exact .mk); clear hS; intro _ _ hS)
    | ((with_reducible refine' Wl.out ?_; apply k_alloc hS); (· exact .mk); clear hS; intro _ _ hS)
    | ((with_reducible refine' Wl.out ?_; apply k_load hS); (· exact .mk))
    | ((with_reducible refine' Wl.out ?_; apply k_loads hS); (· exact .mk))
    | go_skip
    | ((with_reducible refine' Wl.out ?_; apply kg_load hS); iterate 2 (· exact .mk))
    | ((with_reducible refine' Wl.out ?_; apply kg_loads hS); iterate 2 (· exact .mk))
    | ((with_reducible refine' Wl.out ?_; refine' wg_case ?_ ?_) <;> (intro hgW; (try (have hg2 := hgW; simp [go_sem] at hg2)); (first | (exfalso; assumption) | ((with_reducible refine' Wl.out ?_; apply k_no hgW)) | ((with_reducible refine' Wl.out ?_; apply kg_load hS ⟨hgW⟩); (· exact .mk)) | ((with_reducible refine' Wl.out ?_; apply kg_loads hS ⟨hgW⟩); (· exact .mk))); clear hgW))
    | ((with_reducible refine' Wl.out ?_; apply k_stores hS); (· exact .mk); clear hS; intro ws hS)
        | (go_at_call 60; refine (awithin_c m _ hS.inw _ _ _).mono ?_; rintro e' wq ⟨_, mq, rfl, rfl, hk⟩; replace hS := hS.grow (grownBy_of_below hk.below); clear hk; (first | rw [H1.out] | rw [H2.out] | rw [H3.out]))
          | (go_at_call 61; refine (named_c m _ hS.inw _ _ _ _).mono ?_; rintro e' wq ⟨_, mq, rfl, rfl, hk⟩; replace hS := hS.grow (grownBy_of_below hk.below); clear hk; (first | rw [N1.out] | rw [N2.out] | rw [N3.out]))
          | (go_at_call 45; refine (vcheck_c m _ hS.inw _ _ A0.out).mono ?_; rintro e' wq ⟨_, mq, rfl, rfl, hk⟩; replace hS := hS.grow (grownBy_of_below hk.below); clear hk; rw [F1.out])
          | go_in)
      go_ret
      exact ⟨_, m, rfl, rfl, hS.done⟩
  · have N1 := Lib.hid n1
    have N2 := Lib.hid n2
    clear hcase n1 n2
    cases V
    all_goals
      go_enter Tryz.func27, Tryz.ntmps27
      go_wp2_with (first
    | ((with_reducible refine' Wl.out ?_; apply k_box hS); (· exact .mk); clear hS; intro _ _ hS)
    | ((with_reducible refine' Wl.out ?_; apply k_alloc hS); (· exact .mk); clear hS; intro _ _ hS)
    | ((with_reducible refine' Wl.out ?_; apply k_load hS); (· exact .mk))
    | ((with_reducible refine' Wl.out ?_; apply k_loads hS); (· exact .mk))
    | go_skip
    | ((with_reducible refine' Wl.out ?_; apply kg_load hS); iterate 2 (· exact .mk))
    | ((with_reducible refine' Wl.out ?_; apply kg_loads hS); iterate 2 (· exact .mk))
    | ((with_reducible refine' Wl.out ?_; refine' wg_case ?_ ?_) <;> (intro hgW; (try (have hg2 := hgW; simp [go_sem] at hg2)); (first | (exfalso; assumption) | ((with_reducible refine' Wl.out ?_; apply k_no hgW)) | ((with_reducible refine' Wl.out ?_; apply kg_load hS ⟨hgW⟩); (· exact .mk)) | ((with_reducible refine' Wl.out ?_; apply kg_loads hS ⟨hgW⟩); (· exact .mk))); clear hgW))
    | ((with_reducible refine' Wl.out ?_; apply k_stores hS); (· exact .mk); clear hS; intro ws hS)
        | (go_at_call 60; refine (awithin_c m _ hS.inw _ _ _).mono ?_; rintro e' wq ⟨_, mq, rfl, rfl, hk⟩; replace hS := hS.grow (grownBy_of_below hk.below); clear hk; (first | rw [H1.out] | rw [H2.out] | rw [H3.out]))
          | (go_at_call 61; refine (named_c m _ hS.inw _ _ _ _).mono ?_; rintro e' wq ⟨_, mq, rfl, rfl, hk⟩; replace hS := hS.grow (grownBy_of_below hk.below); clear hk; (first | rw [N1.out] | rw [N2.out] | rw [N3.out]))
          | (go_at_call 45; refine (vcheck_c m _ hS.inw _ _ A0.out).mono ?_; rintro e' wq ⟨_, mq, rfl, rfl, hk⟩; replace hS := hS.grow (grownBy_of_below hk.below); clear hk; rw [F1.out])
          | go_in)
      go_ret
      exact ⟨_, m, rfl, rfl, hS.done⟩
  · have N1 := Lib.hid n1
    have N2 := Lib.hid n2
    have N3 := Lib.hid n3
    clear hcase n1 n2 n3
    cases V
    all_goals
      go_enter Tryz.func27, Tryz.ntmps27
      go_wp2_with (first
    | ((with_reducible refine' Wl.out ?_; apply k_box hS); (· exact .mk); clear hS; intro _ _ hS)
    | ((with_reducible refine' Wl.out ?_; apply k_alloc hS); (· exact .mk); clear hS; intro _ _ hS)
    | ((with_reducible refine' Wl.out ?_; apply k_load hS); (· exact .mk))
    | ((with_reducible refine' Wl.out ?_; apply k_loads hS); (· exact .mk))
    | go_skip
    | ((with_reducible refine' Wl.out ?_; apply kg_load hS); iterate 2 (· exact .mk))
    | ((with_reducible refine' Wl.out ?_; apply kg_loads hS); iterate 2 (· exact .mk))
    | ((with_reducible refine' Wl.out ?_; refine' wg_case ?_ ?_) <;> (intro hgW; (try (have hg2 := hgW; simp [go_sem] at hg2)); (first | (exfalso; assumption) | ((with_reducible refine' Wl.out ?_; apply k_no hgW)) | ((with_reducible refine' Wl.out ?_; apply kg_load hS ⟨hgW⟩); (· exact .mk)) | ((with_reducible refine' Wl.out ?_; apply kg_loads hS ⟨hgW⟩); (· exact .mk))); clear hgW))
    | ((with_reducible refine' Wl.out ?_; apply k_stores hS); (· exact .mk); clear hS; intro ws hS)
        | (go_at_call 60; refine (awithin_c m _ hS.inw _ _ _).mono ?_; rintro e' wq ⟨_, mq, rfl, rfl, hk⟩; replace hS := hS.grow (grownBy_of_below hk.below); clear hk; (first | rw [H1.out] | rw [H2.out] | rw [H3.out]))
          | (go_at_call 61; refine (named_c m _ hS.inw _ _ _ _).mono ?_; rintro e' wq ⟨_, mq, rfl, rfl, hk⟩; replace hS := hS.grow (grownBy_of_below hk.below); clear hk; (first | rw [N1.out] | rw [N2.out] | rw [N3.out]))
          | (go_at_call 45; refine (vcheck_c m _ hS.inw _ _ A0.out).mono ?_; rintro e' wq ⟨_, mq, rfl, rfl, hk⟩; replace hS := hS.grow (grownBy_of_below hk.below); clear hk; rw [F1.out])
          | go_in)
      go_ret
      exact ⟨_, m, rfl, rfl, hS.done⟩
  · have N1 := Lib.hid n1
    have N2 := Lib.hid n2
    have N3 := Lib.hid n3
    clear hcase n1 n2 n3
    cases V with
    | false =>
      rw [if_neg Bool.false_ne_true] at hV
      rcases hV with ⟨h0, rfl⟩ | ⟨h0, rfl⟩
      · have h5 : ((v.length : Int) == 0) = true := by simp [h0]
        clear h0
        go_enter Tryz.func27, Tryz.ntmps27
        go_wp2_with (first
    | ((with_reducible refine' Wl.out ?_; apply k_box hS); (· exact .mk); clear hS; intro _ _ hS)
    | ((with_reducible refine' Wl.out ?_; apply k_alloc hS); (· exact .mk); clear hS; intro _ _ hS)
    | ((with_reducible refine' Wl.out ?_; apply k_load hS); (· exact .mk))
    | ((with_reducible refine' Wl.out ?_; apply k_loads hS); (· exact .mk))
    | go_skip
    | ((with_reducible refine' Wl.out ?_; apply kg_load hS); iterate 2 (· exact .mk))
    | ((with_reducible refine' Wl.out ?_; apply kg_loads hS); iterate 2 (· exact .mk))
    | ((with_reducible refine' Wl.out ?_; refine' wg_case ?_ ?_) <;> (intro hgW; (try (have hg2 := hgW; simp [go_sem] at hg2)); (first | (exfalso; assumption) | ((with_reducible refine' Wl.out ?_; apply k_no hgW)) | ((with_reducible refine' Wl.out ?_; apply kg_load hS ⟨hgW⟩); (· exact .mk)) | ((with_reducible refine' Wl.out ?_; apply kg_loads hS ⟨hgW⟩); (· exact .mk))); clear hgW))
    | ((with_reducible refine' Wl.out ?_; apply k_stores hS); (· exact .mk); clear hS; intro ws hS)
          | (go_at_call 60; refine (awithin_c m _ hS.inw _ _ _).mono ?_; rintro e' wq ⟨_, mq, rfl, rfl, hk⟩; replace hS := hS.grow (grownBy_of_below hk.below); clear hk; (first | rw [H1.out] | rw [H2.out] | rw [H3.out]))
          | (go_at_call 61; refine (named_c m _ hS.inw _ _ _ _).mono ?_; rintro e' wq ⟨_, mq, rfl, rfl, hk⟩; replace hS := hS.grow (grownBy_of_below hk.below); clear hk; (first | rw [N1.out] | rw [N2.out] | rw [N3.out]))
          | (go_at_call 45; refine (vcheck_c m _ hS.inw _ _ A0.out).mono ?_; rintro e' wq ⟨_, mq, rfl, rfl, hk⟩; replace hS := hS.grow (grownBy_of_below hk.below); clear hk; rw [F1.out])
          | go_in)
        go_ret
        exact ⟨_, m, rfl, rfl, hS.done⟩
      · have h5 : ((v.length : Int) == 0) = false := by simp; intro e; exact h0 (by simp [e])
        clear h0
        go_enter Tryz.func27, Tryz.ntmps27
        go_wp2_with (first
    | ((with_reducible refine' Wl.out ?_; apply k_box hS); (· exact .mk); clear hS; intro _ _ hS)
    | ((with_reducible refine' Wl.out ?_; apply k_alloc hS); (· exact .mk); clear hS; intro _ _ hS)
    | ((with_reducible refine' Wl.out ?_; apply k_load hS); (· exact .mk))
    | ((with_reducible refine' Wl.out ?_; apply k_loads hS); (· exact .mk))
    | go_skip
    | ((with_reducible refine' Wl.out ?_; apply kg_load hS); iterate 2 (· exact .mk))
    | ((with_reducible refine' Wl.out ?_; apply kg_loads hS); iterate 2 (· exact .mk))
    | ((with_reducible refine' Wl.out ?_; refine' wg_case ?_ ?_) <;> (intro hgW; (try (have hg2 := hgW; simp [go_sem] at hg2)); (first | (exfalso; assumption) | ((with_reducible refine' Wl.out ?_; apply k_no hgW)) | ((with_reducible refine' Wl.out ?_; apply kg_load hS ⟨hgW⟩); (· exact .mk)) | ((with_reducible refine' Wl.out ?_; apply kg_loads hS ⟨hgW⟩); (· exact .mk))); clear hgW))
    | ((with_reducible refine' Wl.out ?_; apply k_stores hS); (· exact .mk); clear hS; intro ws hS)
          | (go_at_call 60; refine (awithin_c m _ hS.inw _ _ _).mono ?_; rintro e' wq ⟨_, mq, rfl, rfl, hk⟩; replace hS := hS.grow (grownBy_of_below hk.below); clear hk; (first | rw [H1.out] | rw [H2.out] | rw [H3.out]))
          | (go_at_call 61; refine (named_c m _ hS.inw _ _ _ _).mono ?_; rintro e' wq ⟨_, mq, rfl, rfl, hk⟩; replace hS := hS.grow (grownBy_of_below hk.below); clear hk; (first | rw [N1.out] | rw [N2.out] | rw [N3.out]))
          | (go_at_call 45; refine (vcheck_c m _ hS.inw _ _ A0.out).mono ?_; rintro e' wq ⟨_, mq, rfl, rfl, hk⟩; replace hS := hS.grow (grownBy_of_below hk.below); clear hk; rw [F1.out])
          | go_in)
        go_ret
        exact ⟨_, m, rfl, rfl, hS.done⟩
    | true =>
      rw [if_pos rfl] at hV
      rcases hV with ⟨g1, g2, rfl⟩ | ⟨g1 | ⟨g1, g2⟩, rfl⟩
      · have h5 : ((v.length : Int) == D) = true := by simp [g1]
        have F1 : Hid (chkV v = 0) := if_pos g2
        clear g1 g2
        go_enter Tryz.func27, Tryz.ntmps27
        go_wp2_with (first
    | ((with_reducible refine' Wl.out ?_; apply k_box hS); (· exact .mk); clear hS; intro _ _ hS)
    | ((with_reducible refine' Wl.out ?_; apply k_alloc hS); (· exact .mk); clear hS; intro _ _ hS)
    | ((with_reducible refine' Wl.out ?_; apply k_load hS); (· exact .mk))
    | ((with_reducible refine' Wl.out ?_; apply k_loads hS); (· exact .mk))
    | go_skip
    | ((with_reducible refine' Wl.out ?_; apply kg_load hS); iterate 2 (· exact .mk))
    | ((with_reducible refine' Wl.out ?_; apply kg_loads hS); iterate 2 (· exact .mk))
    | ((with_reducible refine' Wl.out ?_; refine' wg_case ?_ ?_) <;> (intro hgW; (try (have hg2 := hgW; simp [go_sem] at hg2)); (first | (exfalso; assumption) | ((with_reducible refine' Wl.out ?_; apply k_no hgW)) | ((with_reducible refine' Wl.out ?_; apply kg_load hS ⟨hgW⟩); (· exact .mk)) | ((with_reducible refine' Wl.out ?_; apply kg_loads hS ⟨hgW⟩); (· exact .mk))); clear hgW))
    | ((with_reducible refine' Wl.out ?_; apply k_stores hS); (· exact .mk); clear hS; intro ws hS)
          | (go_at_call 60; refine (awithin_c m _ hS.inw _ _ _).mono ?_; rintro e' wq ⟨_, mq, rfl, rfl, hk⟩; replace hS := hS.grow (grownBy_of_below hk.below); clear hk; (first | rw [H1.out] | rw [H2.out] | rw [H3.out]))
          | (go_at_call 61; refine (named_c m _ hS.inw _ _ _ _).mono ?_; rintro e' wq ⟨_, mq, rfl, rfl, hk⟩; replace hS := hS.grow (grownBy_of_below hk.below); clear hk; (first | rw [N1.out] | rw [N2.out] | rw [N3.out]))
          | (go_at_call 45; refine (vcheck_c m _ hS.inw _ _ A0.out).mono ?_; rintro e' wq ⟨_, mq, rfl, rfl, hk⟩; replace hS := hS.grow (grownBy_of_below hk.below); clear hk; rw [F1.out])
          | go_in)
        go_ret
        exact ⟨_, m, rfl, rfl, hS.done⟩
      · have h5 : ((v.length : Int) == D) = false := by simp [g1]
        clear g1
        go_enter Tryz.func27, Tryz.ntmps27
        go_wp2_with (first
    | ((with_reducible refine' Wl.out ?_; apply k_box hS); (· exact .mk); clear hS; intro _ _ hS)
    | ((with_reducible refine' Wl.out ?_; apply k_alloc hS); (· exact .mk); clear hS; intro _ _ hS)
    | ((with_reducible refine' Wl.out ?_; apply k_load hS); (· exact .mk))
    | ((with_reducible refine' Wl.out ?_; apply k_loads hS); (· exact .mk))
    | go_skip
    | ((with_reducible refine' Wl.out ?_; apply kg_load hS); iterate 2 (· exact .mk))
    | ((with_reducible refine' Wl.out ?_; apply kg_loads hS); iterate 2 (· exact .mk))
    | ((with_reducible refine' Wl.out ?_; refine' wg_case ?_ ?_) <;> (intro hgW; (try (have hg2 := hgW; simp [go_sem] at hg2)); (first | (exfalso; assumption) | ((with_reducible refine' Wl.out ?_; apply k_no hgW)) | ((with_reducible refine' Wl.out ?_; apply kg_load hS ⟨hgW⟩); (· exact .mk)) | ((with_reducible refine' Wl.out ?_; apply kg_loads hS ⟨hgW⟩); (· exact .mk))); clear hgW))
    | ((with_reducible refine' Wl.out ?_; apply k_stores hS); (· exact .mk); clear hS; intro ws hS)
          | (go_at_call 60; refine (awithin_c m _ hS.inw _ _ _).mono ?_; rintro e' wq ⟨_, mq, rfl, rfl, hk⟩; replace hS := hS.grow (grownBy_of_below hk.below); clear hk; (first | rw [H1.out] | rw [H2.out] | rw [H3.out]))
          | (go_at_call 61; refine (named_c m _ hS.inw _ _ _ _).mono ?_; rintro e' wq ⟨_, mq, rfl, rfl, hk⟩; replace hS := hS.grow (grownBy_of_below hk.below); clear hk; (first | rw [N1.out] | rw [N2.out] | rw [N3.out]))
          | (go_at_call 45; refine (vcheck_c m _ hS.inw _ _ A0.out).mono ?_; rintro e' wq ⟨_, mq, rfl, rfl, hk⟩; replace hS := hS.grow (grownBy_of_below hk.below); clear hk; rw [F1.out])
          | go_in)
        go_ret
        exact ⟨_, m, rfl, rfl, hS.done⟩
      · have h5 : ((v.length : Int) == D) = true := by simp [g1]
        have F1 : Hid (chkV v = 1) := if_neg g2
        clear g1 g2
        go_enter Tryz.func27, Tryz.ntmps27
        go_wp2_with (first
    | ((with_reducible refine' Wl.out ?_; apply k_box hS); (· exact .mk); clear hS; intro _ _ hS)
    | ((with_reducible refine' Wl.out ?_; apply k_alloc hS); (· exact .mk); clear hS; intro _ _ hS)
    | ((with_reducible refine' Wl.out ?_; apply k_load hS); (· exact .mk))
    | ((with_reducible refine' Wl.out ?_; apply k_loads hS); (· exact .mk))
    | go_skip
    | ((with_reducible refine' Wl.out ?_; apply kg_load hS); iterate 2 (· exact .mk))
    | ((with_reducible refine' Wl.out ?_; apply kg_loads hS); iterate 2 (· exact .mk))
    | ((with_reducible refine' Wl.out ?_; refine' wg_case ?_ ?_) <;> (intro hgW; (try (have hg2 := hgW; simp [go_sem] at hg2)); (first | (exfalso; assumption) | ((with_reducible refine' Wl.out ?_; apply k_no hgW)) | ((with_reducible refine' Wl.out ?_; apply kg_load hS ⟨hgW⟩); (· exact .mk)) | ((with_reducible refine' Wl.out ?_; apply kg_loads hS ⟨hgW⟩); (· exact .mk))); clear hgW))
    | ((with_reducible refine' Wl.out ?_; apply k_stores hS); (· exact .mk); clear hS; intro ws hS)
          | (go_at_call 60; refine (awithin_c m _ hS.inw _ _ _).mono ?_; rintro e' wq ⟨_, mq, rfl, rfl, hk⟩; replace hS := hS.grow (grownBy_of_below hk.below); clear hk; (first | rw [H1.out] | rw [H2.out] | rw [H3.out]))
          | (go_at_call 61; refine (named_c m _ hS.inw _ _ _ _).mono ?_; rintro e' wq ⟨_, mq, rfl, rfl, hk⟩; replace hS := hS.grow (grownBy_of_below hk.below); clear hk; (first | rw [N1.out] | rw [N2.out] | rw [N3.out]))
          | (go_at_call 45; refine (vcheck_c m _ hS.inw _ _ A0.out).mono ?_; rintro e' wq ⟨_, mq, rfl, rfl, hk⟩; replace hS := hS.grow (grownBy_of_below hk.below); clear hk; rw [F1.out])
          | go_in)
        go_ret
        exact ⟨_, m, rfl, rfl, hS.done⟩
end Go.Proofs.YtnbhhdncbajkgaaGreatDoor
/- slices.Delete, slices.Insert at items of the call's own. -/
namespace Go.Proofs.YtnbhhdncbajkgaaGreatDoor
set_option linter.unusedVariables false
set_option linter.unusedSimpArgs false
open Go.RowKit Go.Shelf
set_option maxRecDepth 100000 in
set_option maxHeartbeats 4000000 in
theorem delete_c {X : List Nat} {w0 w : World} {m0 m : Mem} {q : Option Addr} {c n i : Nat} {cells : List Value}
    (hS : St X w0 m0 w [.row 50 2 (.slice q n c) n cells] m) (hi : i < n) (hn : n ≤ 1000) (h1 : ∀ v ∈ cells, v.oneCell' = true) :
    Calls Tryz.prog 32 #[.slice q n c, .int .i64 i, .int .i64 (i + 1)] w fun e w' => e = .returned (.slice q (n - 1) c) ∧ St X w0 m0 w' [.row 50 2 (.slice q (n - 1) c) (n - 1) (cells.take (i * 2) ++ cells.drop ((i + 1) * 2))] m := by
  obtain ⟨g, rfl, g1, g2⟩ := row_head (hS.row 0 rfl) (by omega)
  have hcl : cells.length = n * 2 := (hS.row 0 rfl).1
  simp only [maxLen] at g2
  have hiz : (i : Int) < n := by omega
  have hiz1 : (i : Int) + 1 ≤ n := by omega
  have hne : ((i : Int) == (i : Int) + 1) = false := by
    have : ¬ (i : Int) = (i : Int) + 1 := by omega
    simpa using this
  have n1 : ((i : Int) + 1).toNat = i + 1 := by omega
  have HC := Lib.hid h1
  have hn1 : i + (n - (i + 1)) = n - 1 := by omega
  have hn2 : (n : Int) - 1 = ((n - 1 : Nat) : Int) := by omega
  have hlast : ((n - 1 : Nat) : Int) ≤ n := by omega
  have hcap : ¬ c = n - 1 := by omega
  have hc0 : ¬ c = 0 := by omega
  have hic : (i : Int) ≤ c := by omega
  have hic2 : (i : Int) + 1 ≤ c := by omega
  have hci : ¬ c = i := by omega
  have h0i : (0 : Int) ≤ (i : Int) + 1 := by omega
  have hfinal : Hid (cells.take (i * 2) ++ cells.drop ((i + 1) * 2) = cells.take (i * 2) ++ cells.drop ((i + 1) * 2)) := rfl
  clear h1
  by_cases hce : c = i + 1
  · have HCE := Lib.hid hce
    have hceT : (c = i + 1) = True := eq_true hce
    have hz0 : cells.drop ((i + 1) * 2) = [] := List.drop_of_length_le (by omega)
    clear hce
    go_enter Tryz.func32, Tryz.ntmps32
    go_wp2_with fail
    replace hS := hS.drew
    refine startL (S := Sx _ []) (by kernel_rfl) hS.sx0 (fun _ _ _ _ => trivial) (fun hHeld => ?_)
    focus (refine takeN 0 (v := ?_) rfl (by kernel_rfl) ?_ ?_; rotate_left; focus (intro w hSw; clear hSw; go_simp; try with_reducible rfl))
    try simp only [Act.put, nz1, nz2, nz3]
    focus (refine takeN 1 (v := ?_) rfl (by kernel_rfl) ?_ ?_; rotate_left; focus (intro w hSw; clear hSw; go_simp; try with_reducible rfl))
    try simp only [Act.put, nz1, nz2, nz3]
    focus (refine takeN 2 (v := ?_) rfl (by kernel_rfl) ?_ ?_; rotate_left; focus (intro w hSw; clear hSw; go_simp; try with_reducible rfl))
    try simp only [Act.put, nz1, nz2, nz3]
    focus (refine takeN 3 (v := ?_) rfl (by kernel_rfl) ?_ ?_; rotate_left; focus (intro w hSw; clear hSw; go_simp; try with_reducible rfl))
    try simp only [Act.put, nz1, nz2, nz3]
    focus (refine takeN 4 (v := ?_) rfl (by kernel_rfl) ?_ ?_; rotate_left; focus (intro w hSw; clear hSw; go_simp; try with_reducible rfl))
    try simp only [Act.put, nz1, nz2, nz3]
    focus (refine takeN 5 (v := ?_) rfl (by kernel_rfl) ?_ ?_; rotate_left; focus (intro w hSw; clear hSw; go_simp; try with_reducible rfl))
    try simp only [Act.put, nz1, nz2, nz3]
    refine wpAnyH_ready (rs := [6]) (by kernel_rfl) (by simp) ?_
    refine consL 6 rfl (fun K hK => ?_) AllReadyH.nil
    obtain ⟨xs', hS1, hx1, _, _⟩ := hS.cut (by (repeat constructor)) i (by omega); obtain rfl := hx1 (by omega); clear hS; (with_reducible apply s_appRoom hS1 el_item (news := cells.drop ((i + 1) * 2))); (· exact rfl); (· (repeat constructor)); (· exact rfl); (· rw [List.length_drop, hcl]; omega); (· intro j u hj; rw [hz0] at hj; simp at hj); (· intro v hv; exact HC.out v (List.mem_of_mem_drop hv)); (· omega); intro w26 hS; rw [hn1] at hS ⊢; clear hS1 hx1
    refine hK.out _ _ (by first | exact hS.sx0 | exact Sx.le (by assumption) hS.sx0) (fun hHeld => ?_)
    clear hK K
    try simp only [Act.put, nz1, nz2, nz3]
    focus (refine takeN 7 (v := ?_) rfl (by kernel_rfl) ?_ ?_; rotate_left; focus (intro w hSw; clear hSw; go_simp; try with_reducible rfl))
    try simp only [Act.put, nz1, nz2, nz3]
    refine wpAnyH_done (by kernel_rfl) ?_ _
    refine NoPanic.normal ?_
    go_wp2_with (first
      | ((with_reducible refine' Wl.out ?_; apply wl_clearRow hS el_item (by decide)); (· exact rfl); (· (repeat constructor)); (· omega); (· omega); clear hS; intro w31 hS))
    go_ret
    exact ⟨rfl, hS⟩
  · go_enter Tryz.func32, Tryz.ntmps32
    go_wp2_with fail
    replace hS := hS.drew
    refine startL (S := Sx _ []) (by kernel_rfl) hS.sx0 (fun _ _ _ _ => trivial) (fun hHeld => ?_)
    focus (refine takeN 0 (v := ?_) rfl (by kernel_rfl) ?_ ?_; rotate_left; focus (intro w hSw; clear hSw; go_simp; try with_reducible rfl))
    try simp only [Act.put, nz1, nz2, nz3]
    focus (refine takeN 1 (v := ?_) rfl (by kernel_rfl) ?_ ?_; rotate_left; focus (intro w hSw; clear hSw; go_simp; try with_reducible rfl))
    try simp only [Act.put, nz1, nz2, nz3]
    focus (refine takeN 2 (v := ?_) rfl (by kernel_rfl) ?_ ?_; rotate_left; focus (intro w hSw; clear hSw; go_simp; try with_reducible rfl))
    try simp only [Act.put, nz1, nz2, nz3]
    focus (refine takeN 3 (v := ?_) rfl (by kernel_rfl) ?_ ?_; rotate_left; focus (intro w hSw; clear hSw; go_simp; try with_reducible rfl))
    try simp only [Act.put, nz1, nz2, nz3]
    focus (refine takeN 4 (v := ?_) rfl (by kernel_rfl) ?_ ?_; rotate_left; focus (intro w hSw; clear hSw; go_simp; try with_reducible rfl))
    try simp only [Act.put, nz1, nz2, nz3]
    focus (refine takeN 5 (v := ?_) rfl (by kernel_rfl) ?_ ?_; rotate_left; focus (intro w hSw; clear hSw; go_simp; try with_reducible rfl))
    try simp only [Act.put, nz1, nz2, nz3]
    refine wpAnyH_ready (rs := [6]) (by kernel_rfl) (by simp) ?_
    refine consL 6 rfl (fun K hK => ?_) AllReadyH.nil
    have hrow := hS.row 0 rfl; obtain ⟨xs', hS1, hx1, _, _⟩ := hS.cut (by (repeat constructor)) i (by omega); obtain rfl := hx1 (by omega); clear hS; (with_reducible apply s_appRoom hS1 el_item (news := cells.drop ((i + 1) * 2))); (· exact rfl); (· (repeat constructor)); (· exact rfl); (· rw [List.length_drop, hcl]; omega); (· intro j u hj; rw [List.getElem?_drop] at hj; have := hrow.cells (g := g) rfl _ u hj; rw [Addr.add_lit] at this ⊢; rw [Nat.zero_add] at this; exact this); (· intro v hv; exact HC.out v (List.mem_of_mem_drop hv)); (· omega); intro w26 hS; rw [hn1] at hS ⊢; clear hrow hS1 hx1
    refine hK.out _ _ (by first | exact hS.sx0 | exact Sx.le (by assumption) hS.sx0) (fun hHeld => ?_)
    clear hK K
    try simp only [Act.put, nz1, nz2, nz3]
    focus (refine takeN 7 (v := ?_) rfl (by kernel_rfl) ?_ ?_; rotate_left; focus (intro w hSw; clear hSw; go_simp; try with_reducible rfl))
    try simp only [Act.put, nz1, nz2, nz3]
    refine wpAnyH_done (by kernel_rfl) ?_ _
    refine NoPanic.normal ?_
    go_wp2_with (first
      | ((with_reducible refine' Wl.out ?_; apply wl_clearRow hS el_item (by decide)); (· exact rfl); (· (repeat constructor)); (· omega); (· omega); clear hS; intro w31 hS))
    go_ret
    exact ⟨rfl, hS⟩
end Go.Proofs.YtnbhhdncbajkgaaGreatDoor
/- Models: what the laws say of lists alone. -/
namespace Go.Proofs.YtnbhhdncbajkgaaGreatDoor
set_option linter.unusedVariables false
set_option linter.unusedSimpArgs false
open Go.RowKit Go.Shelf
theorem okA_id {a : Ak} {d c : Int} (h : okA a d c) (hk : a.kind ≤ 4) : 0 ≤ a.id ∧ a.id ≤ 2147483647 := by
  have := h.2.2.1; rw [if_pos hk] at this; exact this
theorem okA_v {a : Ak} {d c : Int} (h : okA a d c) (hk : a.kind = 1 ∨ a.kind = 2 ∨ a.kind = 5) : fitsV d a.v := by
  have := h.2.2.2.2.2; rw [if_pos hk] at this; exact ⟨this.2, this.1⟩
/-- What is answered to who puts. -/
theorem doR_put {m : Md} {a : Ak} (hk : a.kind = 1 ∨ a.kind = 2) : (doR m a).e = (if a.kind = 1 ∧ (getM m.l a.id).isSome = true then 6 else if (getM m.l a.id).isSome = false ∧ (m.l.length : Int) = m.cap then 7 else 0) ∧ (doR m a).v = [] ∧ (doR m a).hits = [] ∧ (doR m a).n = 0 := by
  unfold doR
  by_cases h1 : a.kind = 1 ∧ (getM m.l a.id).isSome = true
  · rw [if_pos h1, if_pos h1]; exact ⟨rfl, rfl, rfl, rfl⟩
  · rw [if_neg h1, if_neg h1]
    by_cases h2 : (getM m.l a.id).isSome = false ∧ (m.l.length : Int) = m.cap
    · rw [if_pos ⟨hk, h2⟩, if_pos h2]; exact ⟨rfl, rfl, rfl, rfl⟩
    · rw [if_neg fun h => h2 h.2, if_neg h2, if_neg (by omega), if_neg (by omega), if_neg (by omega), if_neg (by omega)]; exact ⟨rfl, rfl, rfl, rfl⟩
theorem doR_del {m : Md} {a : Ak} (hk : a.kind = 3) : (doR m a).e = (if (getM m.l a.id).isSome = false then 5 else 0) ∧ (doR m a).v = [] ∧ (doR m a).hits = [] ∧ (doR m a).n = 0 := by
  unfold doR
  rw [if_neg (by omega), if_neg (by omega)]
  by_cases h2 : (getM m.l a.id).isSome = false
  · rw [if_pos ⟨.inl hk, h2⟩, if_pos h2]; exact ⟨rfl, rfl, rfl, rfl⟩
  · rw [if_neg fun h => h2 h.2, if_neg h2, if_neg (by omega), if_neg (by omega), if_neg (by omega)]; exact ⟨rfl, rfl, rfl, rfl⟩
theorem doR_get {m : Md} {a : Ak} (hk : a.kind = 4) : doR m a = (match getM m.l a.id with | none => { rp0 with e := 5 } | some v => { rp0 with v := v }) := by
  unfold doR
  rw [if_neg (by omega), if_neg (by omega)]
  cases h : getM m.l a.id with
  | none => rw [if_pos ⟨.inr hk, rfl⟩]
  | some v => rw [if_neg (by rintro ⟨_, e⟩; cases e), if_pos hk]; rfl
theorem doL_same {m : Md} {a : Ak} (h : (doR m a).e ≠ 0) : doL m a = m.l := by
  unfold doL; rw [if_neg fun k => h k.2, if_neg fun k => h k.2]
theorem doL_put {m : Md} {a : Ak} (hk : a.kind = 1 ∨ a.kind = 2) (h : (doR m a).e = 0) : doL m a = putL a.id a.v m.l := if_pos ⟨hk, h⟩
theorem doL_del {m : Md} {a : Ak} (hk : a.kind = 3) (h : (doR m a).e = 0) : doL m a = delL a.id m.l := by
  unfold doL; rw [if_neg (by rintro ⟨h1, _⟩; omega), if_pos ⟨hk, h⟩]
theorem doL_read {m : Md} {a : Ak} (hk : 3 < a.kind) : doL m a = m.l := by
  unfold doL; rw [if_neg (by rintro ⟨h1, _⟩; omega), if_neg (by rintro ⟨h1, _⟩; omega)]
theorem okM_put {m : Md} {z : Int} {v : List Int} (h : okM m) (hz : 0 ≤ z ∧ z ≤ 2147483647) (hv : fitsV m.dim v) (hr : (getM m.l z).isSome = true ∨ (m.l.length : Int) ≠ m.cap) : okM ⟨m.cap, m.dim, putL z v m.l⟩ := by
  refine ⟨h.1, h.2.1, ?_, put_ris h.2.2.2.1, fun x hx => ?_⟩
  · show ((putL z v m.l).length : Int) ≤ m.cap
    rw [put_len h.2.2.2.1]
    have := h.2.2.1
    split
    · exact this
    · rename_i hn
      rcases hr with h1 | h1
      · exact absurd h1 hn
      · omega
  · rcases put_mem hx with hx | rfl
    · exact h.2.2.2.2 x hx
    · exact ⟨hz.1, hz.2, hv⟩
theorem okM_del {m : Md} {z : Int} (h : okM m) : okM ⟨m.cap, m.dim, delL z m.l⟩ := by
  refine ⟨h.1, h.2.1, ?_, del_ris h.2.2.2.1, fun x hx => h.2.2.2.2 x (del_mem hx)⟩
  show ((delL z m.l).length : Int) ≤ m.cap
  rw [del_len]
  have := h.2.2.1
  split <;> omega
/-- What is done leaves what may be. -/
theorem okM_do {m : Md} {a : Ak} (h : okM m) (k : okA a m.dim m.cap) : okM ⟨m.cap, m.dim, doL m a⟩ := by
  by_cases he : (doR m a).e = 0
  · by_cases h1 : a.kind = 1 ∨ a.kind = 2
    · rw [doL_put h1 he]
      refine okM_put h (okA_id k (by omega)) (okA_v k (by omega)) ?_
      rw [(doR_put h1).1] at he
      cases hg : (getM m.l a.id).isSome with
      | true => exact .inl rfl
      | false =>
        refine .inr fun e => ?_
        rw [if_neg (by rw [hg]; rintro ⟨_, h⟩; cases h), if_pos ⟨hg, e⟩] at he
        cases he
    · by_cases h3 : a.kind = 3
      · rw [doL_del h3 he]; exact okM_del h
      · rw [doL_read (by have := k.2.1.1; omega)]; exact h
  · rw [doL_same he]; exact h
/-! ### ModelLast -/
def upA (z : Int) (v : List Int) : Ak := ⟨2, z, 0, 0, v⟩
def insA (z : Int) (v : List Int) : Ak := ⟨1, z, 0, 0, v⟩
def rmA (z : Int) : Ak := ⟨3, z, 0, 0, []⟩
def getA (z : Int) : Ak := ⟨4, z, 0, 0, []⟩
theorem okA_up {z : Int} {v : List Int} {d c : Int} (hs : (1 ≤ d ∧ d ≤ 64) ∧ 1 ≤ c ∧ c ≤ 256) (hz : 0 ≤ z ∧ z ≤ 2147483647) (hv : fitsV d v) : okA (upA z v) d c ∧ okA (insA z v) d c := by
  constructor <;> refine ⟨hs, by simp [upA, insA], ?_, ?_, ?_, ?_⟩ <;> simp [upA, insA] <;> first | exact hz | exact ⟨hv.2, hv.1⟩
theorem okA_rm {z : Int} {d c : Int} (hs : (1 ≤ d ∧ d ≤ 64) ∧ 1 ≤ c ∧ c ≤ 256) (hz : 0 ≤ z ∧ z ≤ 2147483647) : okA (rmA z) d c ∧ okA (getA z) d c := by
  constructor <;> refine ⟨hs, by simp [rmA, getA], ?_, ?_, ?_, ?_⟩ <;> simp [rmA, getA] <;> exact hz
theorem put_put {z : Int} {v w : List Int} {l : List It} (h : Ris l) : putL z w (putL z v l) = putL z w l :=
  ris_ext (put_ris (put_ris h)) (put_ris h) fun y => by
    rw [get_put (put_ris h), get_put h, get_put h]
    split <;> rfl
theorem put_del {z : Int} {w : List Int} {l : List It} (h : Ris l) : putL z w (delL z l) = putL z w l :=
  ris_ext (put_ris (del_ris h)) (put_ris h) fun y => by
    rw [get_put (del_ris h), get_del h, get_put h]
    split <;> rfl
theorem put_ids {z : Int} {v : List Int} {l : List It} (h : Ris l) : (getM (putL z v l) z).isSome = true := by rw [get_put h, if_pos rfl]; rfl
theorem put_len_pos {z : Int} {v : List Int} {l : List It} (h : Ris l) : 1 ≤ (putL z v l).length := by
  rw [put_len h]
  split
  · rename_i hh
    rcases Nat.eq_zero_or_pos l.length with h0 | h0
    · rw [List.eq_nil_of_length_eq_zero h0] at hh; simp [getM] at hh
    · exact h0
  · omega
theorem doM_ok {m : Md} {a : Ak} (h : okM m) (k : okA a m.dim m.cap) : doM m a = ⟨m.cap, m.dim, doL m a⟩ ∧ doP m a = doR m a ∧ doE m a = 0 := ⟨if_pos ⟨h, k⟩, if_pos ⟨h, k⟩, if_pos ⟨h, k⟩⟩
theorem doM_bad {m : Md} {a : Ak} (h : ¬ (okM m ∧ okA a m.dim m.cap)) : doM m a = ⟨0, 0, []⟩ ∧ doP m a = rp0 ∧ doE m a = 1 := ⟨if_neg h, if_neg h, if_neg h⟩
/-- An upsert that comes to something. -/
theorem up_ok {m : Md} {z : Int} {v : List Int} (h : okM m) (k : okA (upA z v) m.dim m.cap) (hr : (doR m (upA z v)).e = 0) : doM m (upA z v) = ⟨m.cap, m.dim, putL z v m.l⟩ ∧ okM ⟨m.cap, m.dim, putL z v m.l⟩ ∧ ((getM m.l z).isSome = true ∨ (m.l.length : Int) ≠ m.cap) := by
  have e := doL_put (m := m) (a := upA z v) (.inr rfl) hr
  have o := okM_do h k
  refine ⟨by rw [(doM_ok h k).1, e]; rfl, by rw [e] at o; exact o, ?_⟩
  rw [(doR_put (.inr rfl)).1, if_neg (by rintro ⟨h, _⟩; cases h)] at hr
  cases hg : (getM m.l z).isSome with
  | true => exact .inl rfl
  | false =>
    refine .inr fun e => ?_
    rw [if_pos ⟨hg, e⟩] at hr
    cases hr
theorem up_e {m : Md} {z : Int} {v w : List Int} : (doR m (upA z v)).e = (doR m (upA z w)).e := by
  rw [(doR_put (.inr rfl)).1, (doR_put (.inr rfl)).1]
  rfl
/-- What ModelLast says, where all goes well. -/
theorem last_law {m : Md} {z : Int} {v w : List Int} (h : okM m) (k1 : okA (upA z v) m.dim m.cap) (k2 : okA (upA z w) m.dim m.cap) (hr : (doR m (upA z v)).e = 0) :
    (doM (doM m (upA z v)) (upA z w) = doM m (upA z w) ∧ (doP (doM m (upA z v)) (upA z w)).e = 0 ∧ doE (doM m (upA z v)) (upA z w) = 0) ∧
    (doE (doM m (upA z w)) (rmA z) = 0 ∧ (doP (doM m (upA z w)) (rmA z)).e = 0) ∧
    (doE (doM (doM m (upA z w)) (rmA z)) (insA z w) = 0 ∧ (doP (doM (doM m (upA z w)) (rmA z)) (insA z w)).e = 0 ∧ doM (doM (doM m (upA z w)) (rmA z)) (insA z w) = doM m (upA z w)) ∧
    (doE (doM (doM m (upA z w)) (rmA z)) (getA z) = 0 ∧ (doP (doM (doM m (upA z w)) (rmA z)) (getA z)).e = 5) := by
  have hr2 : (doR m (upA z w)).e = 0 := by rw [up_e (w := v)]; exact hr
  obtain ⟨e1, o1, g1⟩ := up_ok h k1 hr
  obtain ⟨e2, o2, g2⟩ := up_ok h k2 hr2
  have hs := h.2.2.2.1
  have hz : 0 ≤ z ∧ z ≤ 2147483647 := okA_id k1 (by simp [upA])
  have hw : fitsV m.dim w := okA_v k2 (.inr (.inl rfl))
  have hsz : (1 ≤ m.dim ∧ m.dim ≤ 64) ∧ 1 ≤ m.cap ∧ m.cap ≤ 256 := ⟨h.2.1, h.1⟩
  rw [e1, e2]
  have kr := okA_rm hsz hz
  have ki := (okA_up hsz hz hw).2
  have a1 : (doR ⟨m.cap, m.dim, putL z v m.l⟩ (upA z w)).e = 0 := by
    rw [(doR_put (.inr rfl)).1, if_neg (by rintro ⟨h, _⟩; cases h), if_neg]
    rintro ⟨hh, _⟩
    have := put_ids (v := v) (z := z) hs
    simp only [upA] at hh
    rw [this] at hh; cases hh
  have a2 : (doR ⟨m.cap, m.dim, putL z w m.l⟩ (rmA z)).e = 0 := by
    rw [(doR_del rfl).1, if_neg]
    intro hh
    have := put_ids (v := w) (z := z) hs
    simp only [rmA] at hh
    rw [this] at hh; cases hh
  have b1 := (doM_ok o1 k2)
  have b2 := (doM_ok o2 kr.1)
  have l1 : doL ⟨m.cap, m.dim, putL z v m.l⟩ (upA z w) = putL z w m.l := (doL_put (.inr rfl) a1).trans (put_put hs)
  have l2 : doL ⟨m.cap, m.dim, putL z w m.l⟩ (rmA z) = delL z (putL z w m.l) := doL_del rfl a2
  have o3 : okM ⟨m.cap, m.dim, delL z (putL z w m.l)⟩ := okM_del o2
  have gn : getM (delL z (putL z w m.l)) z = none := by rw [get_del (put_ris hs), if_pos rfl]
  have a3 : (doR ⟨m.cap, m.dim, delL z (putL z w m.l)⟩ (insA z w)).e = 0 := by
    rw [(doR_put (.inl rfl)).1, if_neg, if_neg]
    · rintro ⟨_, hh⟩
      have h1 := o2.2.2.1
      have h2 := put_len_pos (z := z) (v := w) hs
      simp only [] at hh h1
      rw [del_len, if_pos (put_ids hs)] at hh
      omega
    · rintro ⟨_, hh⟩
      simp only [insA] at hh
      rw [gn] at hh; cases hh
  have b3 := doM_ok o3 ki
  have b4 := doM_ok o3 kr.2
  have l3 : doL ⟨m.cap, m.dim, delL z (putL z w m.l)⟩ (insA z w) = putL z w m.l := (doL_put (.inl rfl) a3).trans ((put_del (put_ris hs)).trans (put_put hs))
  refine ⟨⟨by rw [b1.1, l1], by rw [b1.2.1]; exact a1, b1.2.2⟩, ⟨b2.2.2, by rw [b2.2.1]; exact a2⟩, ?_, ?_⟩
  · rw [b2.1, l2]
    exact ⟨b3.2.2, by rw [b3.2.1]; exact a3, by rw [b3.1, l3]⟩
  · rw [b2.1, l2]
    refine ⟨b4.2.2, ?_⟩
    rw [b4.2.1, doR_get rfl]
    simp only [getA]
    rw [gn]
end Go.Proofs.YtnbhhdncbajkgaaGreatDoor
/- model.Do. -/
namespace Go.Proofs.YtnbhhdncbajkgaaGreatDoor
set_option linter.unusedVariables false
set_option linter.unusedSimpArgs false
open Go.RowKit Go.Shelf
theorem ret_cell2_tmp {P : Program} {X : List Nat} {w0 w : World} {m0 m : Mem} {es : List Ent} {fn : Func} {R : Ending → World → Prop} {a : Act} {p p2 u : Tmp} {ty ty2 : TypeId} {b n b2 n2 : Nat} {vs vs2 : List Value} (h : fn.results = #[.cell p ty, .cell p2 ty2, .tmp u]) (hp : a.tmps.getD p undef = .pointer (some ⟨b, 0, none⟩)) (hp2 : a.tmps.getD p2 undef = .pointer (some ⟨b2, 0, none⟩)) (hS : St X w0 m0 w es m) (hM : Ent.box b vs ∈ es) (hl : vs.length = n) (hM2 : Ent.box b2 vs2 ∈ es) (hl2 : vs2.length = n2)
    (hn : ∃ d, P.underlying ty = some d ∧ d.isRow = true ∧ (P.info? ty).map (·.size) = some n) (hn2 : ∃ d, P.underlying ty2 = some d ∧ d.isRow = true ∧ (P.info? ty2).map (·.size) = some n2) (hd : a.defers = []) (hR : R (.returned (.tuple #[.agg vs.toArray, .agg vs2.toArray, a.tmps.getD u undef])) w) : bodyPost P fn R .ret a w := by
  obtain ⟨d, h1, h2, h3⟩ := hn
  obtain ⟨d2, k1, k2, k3⟩ := hn2
  have hb : BoxIn w b vs := (hS.has _ hM).1
  have hb2 : BoxIn w b2 vs2 := (hS.has _ hM2).1
  have hrun := run_loadVar_mid (P := P) w b 0 ty vs d (fun j v hj => by rw [Nat.zero_add]; exact (hb.get j v hj).1) h1 h2 (by rw [hl]; exact h3)
  have hrun2 := run_loadVar_mid (P := P) w b2 0 ty2 vs2 d2 (fun j v hj => by rw [Nat.zero_add]; exact (hb2.get j v hj).1) k1 k2 (by rw [hl2]; exact k3)
  have hp' : a.tmps[p]?.getD undef = .pointer (some ⟨b, 0, none⟩) := by simpa using hp
  have hp2' : a.tmps[p2]?.getD undef = .pointer (some ⟨b2, 0, none⟩) := by simpa using hp2
  refine bodyPost_ret_by ?_ hd hR
  simp [results, h, hp', hp2', asAddr, hrun, hrun2]
theorem do_put_eq {M : Md} {a : Ak} (hk : a.kind = 1 ∨ a.kind = 2) : doR M a = { rp0 with e := putE a.kind M.cap M.l a.id } ∧ doL M a = putR a.kind M.cap M.l a.id a.v := by
  obtain ⟨h1, h2, h3, h4⟩ := doR_put (m := M) hk
  have he : doR M a = { rp0 with e := putE a.kind M.cap M.l a.id } := by
    have e1 : (doR M a).e = putE a.kind M.cap M.l a.id := h1
    generalize doR M a = r at *
    cases r
    simp only at e1 h2 h3 h4
    subst e1 h2 h3 h4
    rfl
  refine ⟨he, ?_⟩
  unfold putR
  by_cases h0 : (doR M a).e = 0
  · rw [doL_put hk h0, if_pos (by rw [he] at h0; exact h0)]
  · rw [doL_same h0, if_neg (by rw [he] at h0; exact h0)]
/-- What Do hands back. -/
def DoQ (M : Md) (a : Ak) (v : Value) (m' : Mem) : Prop :=
  ∃ T R E q c qv cv qh ch, Hid (T = doM M a) ∧ Hid (R = doP M a) ∧ Hid (E = doE M a) ∧ v = .tuple #[.agg #[.int .i64 T.cap, .int .i64 T.dim, .slice q T.l.length c], .agg #[.int .i64 R.e, .slice qv R.v.length cv, .slice qh R.hits.length ch, .int .i64 R.n], .int .i64 E] ∧
    Hid (itL.list.rd m' [.slice q T.l.length c] T.l) ∧ Hid (vecL.rd m' [.slice qv R.v.length cv] R.v) ∧ Hid (hitL.list.rd m' [.slice qh R.hits.length ch] R.hits)
theorem it_bytes {m : Mem} {cells : List Value} {l : List It} (h : l.length ≤ 1000) : l.length * itL.bytes ≤ 140737488355328 := by show _ * 32 ≤ _; omega
set_option maxRecDepth 100000 in
set_option maxHeartbeats 8000000 in
theorem do_bad (m : Mem) (w : World) (hm : m.In w) (hG : ShAt m) (q : Option Addr) (c : Nat) (M : Md) (h : itL.list.rd m [.slice q M.l.length c] M.l) (kind id kk seed : Int) (v : List Int) (qv : Option Addr) (cv : Nat) (hv : vecL.rd m [.slice qv v.length cv] v) (hsd : seed ≤ 9223372036854775807)
    (hno : ¬ (okM M ∧ okA ⟨kind, id, kk, seed, v⟩ M.dim M.cap)) :
    Calls Tryz.prog 9 #[.agg #[.int .i64 M.cap, .int .i64 M.dim, .slice q M.l.length c], .agg #[.int .i64 kind, .int .i64 id, .int .i64 kk, .int .i64 seed, .slice qv v.length cv]] w (Ret w m (DoQ M ⟨kind, id, kk, seed, v⟩)) := by
  have hS := St.start hm
  have A0 := Lib.hid h
  have A1 := Lib.hid hv
  have HG := Lib.hid hG
  have hb := Lib.hid (doM_bad hno)
  have hcase : chkM M = 1 ∨ chkM M = 0 ∧ chkA ⟨kind, id, kk, seed, v⟩ M.dim M.cap = 1 := by
    by_cases h1 : okM M
    · exact .inr ⟨if_pos h1, if_neg fun h2 => hno ⟨h1, h2⟩⟩
    · exact .inl (if_neg h1)
  clear h hv hG hno
  rcases hcase with h1 | ⟨h1, h2⟩
  all_goals
    have HCk := Lib.hid h1
    (try have HCa := Lib.hid h2)
    clear h1
    (try clear h2)
    go_enter Tryz.func9, Tryz.ntmps9
    go_wp2_with (first
    | ((with_reducible refine' Wl.out ?_; apply k_box (ty := 24) (y := (.tmp 0)) hS); (· exact .mk); clear hS; intro w2 b2 hS)
    | ((with_reducible refine' Wl.out ?_; apply k_box hS); (· exact .mk); clear hS; intro _ _ hS)
    | ((with_reducible refine' Wl.out ?_; apply k_alloc hS); (· exact .mk); clear hS; intro _ _ hS)
    | ((with_reducible refine' Wl.out ?_; apply k_load hS); (· exact .mk))
    | ((with_reducible refine' Wl.out ?_; apply k_loads hS); (· exact .mk))
    | go_skip
    | ((with_reducible refine' Wl.out ?_; apply kg_load hS); iterate 2 (· exact .mk))
    | ((with_reducible refine' Wl.out ?_; apply kg_loads hS); iterate 2 (· exact .mk))
    | ((with_reducible refine' Wl.out ?_; refine' wg_case ?_ ?_) <;> (intro hgW; (try (have hg2 := hgW; simp [go_sem] at hg2)); (first | (exfalso; assumption) | ((with_reducible refine' Wl.out ?_; apply k_no hgW)) | ((with_reducible refine' Wl.out ?_; apply kg_load hS ⟨hgW⟩); (· exact .mk)) | ((with_reducible refine' Wl.out ?_; apply kg_loads hS ⟨hgW⟩); (· exact .mk))); clear hgW))
    | ((with_reducible refine' Wl.out ?_; apply k_store hS); (· exact .mk); clear hS; intro ws hS)
    | ((with_reducible refine' Wl.out ?_; apply k_storeR hS); (· exact .mk); clear hS; intro ws hS)
    | ((with_reducible refine' Wl.out ?_; apply k_stores hS); (· exact .mk); clear hS; intro ws hS)
      | (go_at_call 17; refine (mcheck_c m _ hS.inw _ _ M A0.out).mono ?_; rintro e' wq ⟨_, mq, rfl, rfl, hk⟩; replace hS := hS.grow (grownBy_of_below hk.below); clear hk; rw [HCk.out])
      | (go_at_call 27; refine (acheck_c m _ hS.inw HG.out _ _ _ _ _ _ _ A1.out hsd _ _).mono ?_; rintro e' wq ⟨_, mq, rfl, rfl, hk⟩; replace hS := hS.grow (grownBy_of_below hk.below); clear hk; rw [HCa.out]))
    refine ret_cell2_tmp (n := 3) (n2 := 4) Tryz.results9 rfl rfl hS (by (repeat constructor)) (by rfl) (by (repeat constructor)) (by rfl) rowT24 rowT36 rfl ?_
    exact ⟨_, m, rfl, ⟨⟨0, 0, []⟩, rp0, 1, none, 0, none, 0, none, 0, hb.out.1.symm, hb.out.2.1.symm, hb.out.2.2.symm, rfl, Lay.nil_rd _ _, Lay.nil_rd _ _, Lay.nil_rd _ _⟩, hS.done⟩
set_option maxRecDepth 100000 in
set_option maxHeartbeats 8000000 in
theorem do_putc (m : Mem) (w : World) (hm : m.In w) (hG : ShAt m) (q : Option Addr) (c : Nat) (M : Md) (h : itL.list.rd m [.slice q M.l.length c] M.l) (kind id kk seed : Int) (v : List Int) (qv : Option Addr) (cv : Nat) (hv : vecL.rd m [.slice qv v.length cv] v) (hsd : seed ≤ 9223372036854775807)
    (hid : InK .i64 id) (hok : okM M) (hoa : okA ⟨kind, id, kk, seed, v⟩ M.dim M.cap) (hkind : kind = 1 ∨ kind = 2) :
    Calls Tryz.prog 9 #[.agg #[.int .i64 M.cap, .int .i64 M.dim, .slice q M.l.length c], .agg #[.int .i64 kind, .int .i64 id, .int .i64 kk, .int .i64 seed, .slice qv v.length cv]] w (Ret w m (DoQ M ⟨kind, id, kk, seed, v⟩)) := by
  have hS := St.start hm
  have A0 := Lib.hid h
  have A1 := Lib.hid hv
  have HG := Lib.hid hG
  have HId := Lib.hid hid
  have hn : M.l.length ≤ 256 := by have := hok.2.2.1; have := hok.1; omega
  have hl : M.l.length ≤ 1000 := by omega
  have hb1 : Hid (M.l.length * itL.bytes ≤ 140737488355328) := by show _ * 32 ≤ _; omega
  have HN := Lib.hid hn
  have HSo := Lib.hid hok.2.2.2.1
  have HCk : Hid (chkM M = 0) := if_pos hok
  have HCa : Hid (chkA ⟨kind, id, kk, seed, v⟩ M.dim M.cap = 0) := if_pos hoa
  obtain ⟨d1, d2, d3⟩ := doM_ok hok hoa
  obtain ⟨e1, e2⟩ := do_put_eq (M := M) (a := ⟨kind, id, kk, seed, v⟩) hkind
  rw [e2] at d1
  rw [e1] at d2
  have HD := Lib.hid (And.intro d1 (And.intro d2 d3))
  have hlen : (putR kind M.cap M.l id v).length ≤ 1000 := by
    unfold putR
    split
    · rw [put_len hok.2.2.2.1]; split <;> omega
    · omega
  have HLen := Lib.hid hlen
  clear h hv hG hid hn hok hoa d1 d2 d3 e1 e2 hlen
  rcases hkind with rfl | rfl
  all_goals
    go_enter Tryz.func9, Tryz.ntmps9
    go_wp2_with (first
    | ((with_reducible refine' Wl.out ?_; apply k_box (ty := 24) (y := (.tmp 0)) hS); (· exact .mk); clear hS; intro w2 b2 hS)
    | ((with_reducible refine' Wl.out ?_; apply k_box hS); (· exact .mk); clear hS; intro _ _ hS)
    | ((with_reducible refine' Wl.out ?_; apply k_alloc hS); (· exact .mk); clear hS; intro _ _ hS)
    | ((with_reducible refine' Wl.out ?_; apply k_load hS); (· exact .mk))
    | ((with_reducible refine' Wl.out ?_; apply k_loads hS); (· exact .mk))
    | go_skip
    | ((with_reducible refine' Wl.out ?_; apply kg_load hS); iterate 2 (· exact .mk))
    | ((with_reducible refine' Wl.out ?_; apply kg_loads hS); iterate 2 (· exact .mk))
    | ((with_reducible refine' Wl.out ?_; refine' wg_case ?_ ?_) <;> (intro hgW; (try (have hg2 := hgW; simp [go_sem] at hg2)); (first | (exfalso; assumption) | ((with_reducible refine' Wl.out ?_; apply k_no hgW)) | ((with_reducible refine' Wl.out ?_; apply kg_load hS ⟨hgW⟩); (· exact .mk)) | ((with_reducible refine' Wl.out ?_; apply kg_loads hS ⟨hgW⟩); (· exact .mk))); clear hgW))
    | ((with_reducible refine' Wl.out ?_; apply k_store hS); (· exact .mk); clear hS; intro ws hS)
    | ((with_reducible refine' Wl.out ?_; apply k_storeR hS); (· exact .mk); clear hS; intro ws hS)
    | ((with_reducible refine' Wl.out ?_; apply k_stores hS); (· exact .mk); clear hS; intro ws hS)
      | (go_at_call 17; refine (mcheck_c m _ hS.inw _ _ M A0.out).mono ?_; rintro e' wq ⟨_, mq, rfl, rfl, hk⟩; replace hS := hS.grow (grownBy_of_below hk.below); clear hk; rw [HCk.out])
      | (go_at_call 27; refine (acheck_c m _ hS.inw HG.out _ _ _ _ _ _ _ A1.out hsd _ _).mono ?_; rintro e' wq ⟨_, mq, rfl, rfl, hk⟩; replace hS := hS.grow (grownBy_of_below hk.below); clear hk; rw [HCa.out])
      | (go_at_call 28; refine (mown_c m _ hS.inw _ _ M A0.out).mono ?_; rintro e' w24 ⟨q24, c24, cells24, m24, rfl, hc24, hk24⟩; have HLE := Lib.hid hk24.le; have HC := Lib.hid hc24; replace hS := hS.callOwn hk24; clear hk24 hc24; simp only [List.cons_append, List.nil_append] at hS)
      | (go_at_call 29; have hrd := St.rdOwn (L := itL) (xs := M.l) hS 0 rfl rfl HC.out hb1.out; refine (mfind_c (World.mem _) _ (World.mem_in _) _ _ _ _ M.l hrd HSo.out hl _ rfl rfl).mono ?_; clear hrd; rintro e' w29 ⟨_, m29, rfl, ⟨i, B, hP, hB, rfl⟩, hk⟩; replace hS := hS.grow (grownBy_of_below hk.below); clear hk)
      | (go_at_call 30; replace hS := (hS.front (x := .row 50 2 _ _ _) (by (repeat constructor))).front (x := .box b2 _) (by (repeat constructor)); refine (put_c (St.sub (ls := [_, _]) hS) HC.out HSo.out HN.out _ _ _ _ _ _ _ (Lay.mono _ HLE.out A1.out) HId.out).mono ?_; rintro e' w38 ⟨E38, T38, q38, c38, cells38, m38, hE38, hT38, rfl, hle38, hc38, hk⟩; replace hS := St.lendL (ls := [_, _]) hS hk; clear hk; simp only [List.cons_append, List.nil_append] at hS))
    replace hS := hS.drew
    refine startL (S := Sx _ [(b2, _)]) (by kernel_rfl) (hS.sx0.cons hS (by (repeat constructor))) (fun _ _ _ _ => trivial) (fun hHeld => ?_)
    refine takeN 0 rfl (by kernel_rfl) (yield_loads rfl rowT24 rfl (by (first | (apply FindsX.box; (· (repeat constructor)); (· (repeat constructor)); done) | (refine FindsX.mem (by assumption) ?_; first | rfl | assumption | (simp; done))))) ?_
    try simp only [Act.put, nz1, nz2, nz3]
    focus (refine takeN 2 (v := ?_) rfl (by kernel_rfl) ?_ ?_; rotate_left; focus (intro w hSw; clear hSw; go_simp; try with_reducible rfl))
    try simp only [Act.put, nz1, nz2, nz3]
    refine wpAnyH_ready (rs := [1, 3]) (by kernel_rfl) (by simp) ?_
    refine consL 1 rfl (fun K hK => ?_) (consL 3 rfl (fun K hK => ?_) AllReadyH.nil)
    rotate_right
    focus
      (with_reducible apply s_stores hS); (· exact rowT24); (· exact rfl); (· exact rfl); (· exact rfl); (· (first | assumption | (simp [Value.oneCell']; done))); (· (repeat constructor)); (· (repeat constructor)); (· (repeat constructor)); clear hS; intro ws hS
      refine hK.out _ _ (by first | exact (hS.sx0.cons hS (by (repeat constructor))) | exact Sx.le (by assumption) (hS.sx0.cons hS (by (repeat constructor)))) (fun hHeld => ?_)
      clear hK K
      try simp only [Act.put, nz1, nz2, nz3]
      refine wpAnyH_ready (rs := [1]) (by kernel_rfl) (by simp) ?_
      refine consL 1 rfl (fun K hK => ?_) AllReadyH.nil
      (with_reducible apply s_loads hS); (· exact rowT36); (· exact rfl); (· (first | (apply Finds.box; (· (repeat constructor)); (· (repeat constructor)); done) | (refine Finds.mem2 (by assumption) ?_; first | rfl | assumption | (simp; done)) | (apply Finds.row; (· (repeat constructor)); (· assumption); (· rfl))))
      refine hK.out _ _ (by first | exact (hS.sx0.cons hS (by (repeat constructor))) | exact Sx.le (by assumption) (hS.sx0.cons hS (by (repeat constructor)))) (fun hHeld => ?_)
      clear hK K
      try simp only [Act.put, nz1, nz2, nz3]
      refine wpAnyH_ready (rs := [4]) (by kernel_rfl) (by simp) ?_
      refine consL 4 rfl (fun K hK => ?_) AllReadyH.nil
      (with_reducible apply s_stores hS); (· exact rowT36); (· exact rfl); (· exact rfl); (· exact rfl); (· (first | assumption | (simp [Value.oneCell']; done))); (· (repeat constructor)); (· (repeat constructor)); (· (repeat constructor)); clear hS; intro ws hS
      refine hK.out _ _ (by first | exact (hS.sx0.cons hS (by (repeat constructor))) | exact Sx.le (by assumption) (hS.sx0.cons hS (by (repeat constructor)))) (fun hHeld => ?_)
      clear hK K
      try simp only [Act.put, nz1, nz2, nz3]
      focus (refine takeN 5 (v := ?_) rfl (by kernel_rfl) ?_ ?_; rotate_left; focus (intro w hSw; clear hSw; go_simp; try with_reducible rfl))
      try simp only [Act.put, nz1, nz2, nz3]
      refine wpAnyH_done (by kernel_rfl) ?_ _
      refine NoPanic.normal ?_
    rotate_right
    focus
      (with_reducible apply s_loads hS); (· exact rowT36); (· exact rfl); (· (first | (apply Finds.box; (· (repeat constructor)); (· (repeat constructor)); done) | (refine Finds.mem2 (by assumption) ?_; first | rfl | assumption | (simp; done)) | (apply Finds.row; (· (repeat constructor)); (· assumption); (· rfl))))
      refine hK.out _ _ (by first | exact (hS.sx0.cons hS (by (repeat constructor))) | exact Sx.le (by assumption) (hS.sx0.cons hS (by (repeat constructor)))) (fun hHeld => ?_)
      clear hK K
      try simp only [Act.put, nz1, nz2, nz3]
      refine wpAnyH_ready (rs := [3]) (by kernel_rfl) (by simp) ?_
      refine consL 3 rfl (fun K hK => ?_) AllReadyH.nil
      (with_reducible apply s_stores hS); (· exact rowT24); (· exact rfl); (· exact rfl); (· exact rfl); (· (first | assumption | (simp [Value.oneCell']; done))); (· (repeat constructor)); (· (repeat constructor)); (· (repeat constructor)); clear hS; intro ws hS
      refine hK.out _ _ (by first | exact (hS.sx0.cons hS (by (repeat constructor))) | exact Sx.le (by assumption) (hS.sx0.cons hS (by (repeat constructor)))) (fun hHeld => ?_)
      clear hK K
      try simp only [Act.put, nz1, nz2, nz3]
      refine wpAnyH_ready (rs := [4]) (by kernel_rfl) (by simp) ?_
      refine consL 4 rfl (fun K hK => ?_) AllReadyH.nil
      (with_reducible apply s_stores hS); (· exact rowT36); (· exact rfl); (· exact rfl); (· exact rfl); (· (first | assumption | (simp [Value.oneCell']; done))); (· (repeat constructor)); (· (repeat constructor)); (· (repeat constructor)); clear hS; intro ws hS
      refine hK.out _ _ (by first | exact (hS.sx0.cons hS (by (repeat constructor))) | exact Sx.le (by assumption) (hS.sx0.cons hS (by (repeat constructor)))) (fun hHeld => ?_)
      clear hK K
      try simp only [Act.put, nz1, nz2, nz3]
      focus (refine takeN 5 (v := ?_) rfl (by kernel_rfl) ?_ ?_; rotate_left; focus (intro w hSw; clear hSw; go_simp; try with_reducible rfl))
      try simp only [Act.put, nz1, nz2, nz3]
      refine wpAnyH_done (by kernel_rfl) ?_ _
      refine NoPanic.normal ?_
    all_goals
      go_wp2_with fail
      refine ret_cell2_tmp (n := 3) (n2 := 4) Tryz.results9 rfl rfl hS (by (repeat constructor)) (by rfl) (by (repeat constructor)) (by rfl) rowT24 rowT36 rfl ?_
      replace hS := hS.front (x := .row 50 2 _ _ _) (by (repeat constructor))
      obtain ⟨m2, hS2, hle2, hrd⟩ := hS.settleRow (L := itL) 0 rfl hc38.out (by rw [hT38.out]; have := HLen.out; show _ * 32 ≤ _; omega)
      have hfin := hS2.done
      refine ⟨_, m2, rfl, ⟨⟨M.cap, M.dim, T38⟩, ⟨E38, [], [], 0⟩, 0, q38, c38, none, 0, none, 0, ?_, ?_, HD.out.2.2.symm, rfl, hrd, Lay.nil_rd _ _, Lay.nil_rd _ _⟩, ⟨hfin.kept, hfin.has, hfin.apart, hfin.know, HLE.out.trans (hle38.out.trans hle2), hfin.new⟩⟩
      · rw [hT38.out]; exact HD.out.1.symm
      · rw [hE38.out]; exact HD.out.2.1.symm
end Go.Proofs.YtnbhhdncbajkgaaGreatDoor
/- model.Do: who deletes, and who gets. -/
namespace Go.Proofs.YtnbhhdncbajkgaaGreatDoor
set_option linter.unusedVariables false
set_option linter.unusedSimpArgs false
open Go.RowKit Go.Shelf
theorem find_no {l : List It} {z : Int} {i : Nat} (hs : Ris l) (hg : getM l z = none) (hP : PosM l z i) : decide (i < l.length ∧ (l.getD i itz).id = z) = false := by
  have := (pos_put (v := []) hs hP).2.2
  rw [hg] at this
  refine decide_eq_false fun h => ?_
  rw [if_pos h] at this
  cases this
theorem find_yes {l : List It} {z : Int} {i : Nat} {u : List Int} (hs : Ris l) (hg : getM l z = some u) (hP : PosM l z i) : decide (i < l.length ∧ (l.getD i itz).id = z) = true ∧ i < l.length ∧ (l.getD i itz).v = u ∧ delL z l = l.take i ++ l.drop (i + 1) := by
  obtain ⟨_, a2, a3⟩ := pos_put (v := []) hs hP
  rw [hg] at a3
  by_cases h : i < l.length ∧ (l.getD i itz).id = z
  · rw [if_pos h] at a2 a3
    exact ⟨decide_eq_true h, h.1, (Option.some.inj a3).symm, a2⟩
  · rw [if_neg h] at a3; cases a3
set_option maxRecDepth 100000 in
set_option maxHeartbeats 8000000 in
theorem do_miss (m : Mem) (w : World) (hm : m.In w) (hG : ShAt m) (q : Option Addr) (c : Nat) (M : Md) (h : itL.list.rd m [.slice q M.l.length c] M.l) (kind id kk seed : Int) (v : List Int) (qv : Option Addr) (cv : Nat) (hv : vecL.rd m [.slice qv v.length cv] v) (hsd : seed ≤ 9223372036854775807)
    (hok : okM M) (hoa : okA ⟨kind, id, kk, seed, v⟩ M.dim M.cap) (hkind : kind = 3 ∨ kind = 4) (hg : getM M.l id = none) :
    Calls Tryz.prog 9 #[.agg #[.int .i64 M.cap, .int .i64 M.dim, .slice q M.l.length c], .agg #[.int .i64 kind, .int .i64 id, .int .i64 kk, .int .i64 seed, .slice qv v.length cv]] w (Ret w m (DoQ M ⟨kind, id, kk, seed, v⟩)) := by
  have hS := St.start hm
  have A0 := Lib.hid h
  have A1 := Lib.hid hv
  have HG := Lib.hid hG
  have hn : M.l.length ≤ 256 := by have := hok.2.2.1; have := hok.1; omega
  have hl : M.l.length ≤ 1000 := by omega
  have hb1 : Hid (M.l.length * itL.bytes ≤ 140737488355328) := by show _ * 32 ≤ _; omega
  have HN := Lib.hid hn
  have HSo := Lib.hid hok.2.2.2.1
  have HCk : Hid (chkM M = 0) := if_pos hok
  have HCa : Hid (chkA ⟨kind, id, kk, seed, v⟩ M.dim M.cap = 0) := if_pos hoa
  obtain ⟨d1, d2, d3⟩ := doM_ok hok hoa
  have e1 : doR M ⟨kind, id, kk, seed, v⟩ = { rp0 with e := 5 } := by
    unfold doR
    rw [if_neg (by rintro ⟨h, _⟩; simp only at h; omega), if_neg (by rintro ⟨h, _⟩; simp only at h; omega), if_pos ⟨hkind, by simp only; rw [hg]; rfl⟩]
  have e2 : doL M ⟨kind, id, kk, seed, v⟩ = M.l := doL_same (by rw [e1]; decide)
  rw [e2] at d1
  rw [e1] at d2
  have HD := Lib.hid (And.intro d1 (And.intro d2 d3))
  have HGe := Lib.hid hg
  clear h hv hG hn hok hoa d1 d2 d3 e1 e2 hg
  rcases hkind with rfl | rfl
  all_goals
    go_enter Tryz.func9, Tryz.ntmps9
    go_wp2_with (first
    | ((with_reducible refine' Wl.out ?_; apply k_box (ty := 24) (y := (.tmp 0)) hS); (· exact .mk); clear hS; intro w2 b2 hS)
    | ((with_reducible refine' Wl.out ?_; apply k_box hS); (· exact .mk); clear hS; intro _ _ hS)
    | ((with_reducible refine' Wl.out ?_; apply k_alloc hS); (· exact .mk); clear hS; intro _ _ hS)
    | ((with_reducible refine' Wl.out ?_; apply k_load hS); (· exact .mk))
    | ((with_reducible refine' Wl.out ?_; apply k_loads hS); (· exact .mk))
    | go_skip
    | ((with_reducible refine' Wl.out ?_; apply kg_load hS); iterate 2 (· exact .mk))
    | ((with_reducible refine' Wl.out ?_; apply kg_loads hS); iterate 2 (· exact .mk))
    | ((with_reducible refine' Wl.out ?_; refine' wg_case ?_ ?_) <;> (intro hgW; (try (have hg2 := hgW; simp [go_sem] at hg2)); (first | (exfalso; assumption) | ((with_reducible refine' Wl.out ?_; apply k_no hgW)) | ((with_reducible refine' Wl.out ?_; apply kg_load hS ⟨hgW⟩); (· exact .mk)) | ((with_reducible refine' Wl.out ?_; apply kg_loads hS ⟨hgW⟩); (· exact .mk))); clear hgW))
    | ((with_reducible refine' Wl.out ?_; apply k_store hS); (· exact .mk); clear hS; intro ws hS)
    | ((with_reducible refine' Wl.out ?_; apply k_storeR hS); (· exact .mk); clear hS; intro ws hS)
    | ((with_reducible refine' Wl.out ?_; apply k_stores hS); (· exact .mk); clear hS; intro ws hS)
    | (go_at_call 17; refine (mcheck_c m _ hS.inw _ _ M A0.out).mono ?_; rintro e' wq ⟨_, mq, rfl, rfl, hk⟩; replace hS := hS.grow (grownBy_of_below hk.below); clear hk; rw [HCk.out])
    | (go_at_call 27; refine (acheck_c m _ hS.inw HG.out _ _ _ _ _ _ _ A1.out hsd _ _).mono ?_; rintro e' wq ⟨_, mq, rfl, rfl, hk⟩; replace hS := hS.grow (grownBy_of_below hk.below); clear hk; rw [HCa.out])
    | (go_at_call 28; refine (mown_c m _ hS.inw _ _ M A0.out).mono ?_; rintro e' w24 ⟨q24, c24, cells24, m24, rfl, hc24, hk24⟩; have HLE := Lib.hid hk24.le; have HC := Lib.hid hc24; replace hS := hS.callOwn hk24; clear hk24 hc24; simp only [List.cons_append, List.nil_append] at hS)
    | (go_at_call 29; have hrd := St.rdOwn (L := itL) (xs := M.l) hS 0 rfl rfl HC.out hb1.out; refine (mfind_c (World.mem _) _ (World.mem_in _) _ _ _ _ M.l hrd HSo.out hl _ rfl rfl).mono ?_; clear hrd; rintro e' w29 ⟨_, m29, rfl, ⟨i, B, hP, hB, rfl⟩, hk⟩; replace hS := hS.grow (grownBy_of_below hk.below); clear hk; obtain rfl : B = false := hB.out.trans (find_no HSo.out HGe.out hP.out)))
    replace hS := hS.drew
    refine startL (S := Sx _ [(b2, _)]) (by kernel_rfl) (hS.sx0.cons hS (by (repeat constructor))) (fun _ _ _ _ => trivial) (fun hHeld => ?_)
    refine takeN 0 rfl (by kernel_rfl) (yield_loads rfl rowT24 rfl (by (first | (apply FindsX.box; (· (repeat constructor)); (· (repeat constructor)); done) | (refine FindsX.mem (by assumption) ?_; first | rfl | assumption | (simp; done))))) ?_
    try simp only [Act.put, nz1, nz2, nz3]
    focus (refine takeN 2 (v := ?_) rfl (by kernel_rfl) ?_ ?_; rotate_left; focus (intro w hSw; clear hSw; go_simp; try with_reducible rfl))
    try simp only [Act.put, nz1, nz2, nz3]
    refine wpAnyH_ready (rs := [1, 3]) (by kernel_rfl) (by simp) ?_
    refine consL 1 rfl (fun K hK => ?_) (consL 3 rfl (fun K hK => ?_) AllReadyH.nil)
    rotate_right
    focus
      (with_reducible apply s_stores hS); (· exact rowT24); (· exact rfl); (· exact rfl); (· exact rfl); (· (first | assumption | (simp [Value.oneCell']; done))); (· (repeat constructor)); (· (repeat constructor)); (· (repeat constructor)); clear hS; intro ws hS
      refine hK.out _ _ (by first | exact (hS.sx0.cons hS (by (repeat constructor))) | exact Sx.le (by assumption) (hS.sx0.cons hS (by (repeat constructor)))) (fun hHeld => ?_)
      clear hK K
      try simp only [Act.put, nz1, nz2, nz3]
      refine wpAnyH_ready (rs := [1]) (by kernel_rfl) (by simp) ?_
      refine consL 1 rfl (fun K hK => ?_) AllReadyH.nil
      (with_reducible apply s_loads hS); (· exact rowT36); (· exact rfl); (· (first | (apply Finds.box; (· (repeat constructor)); (· (repeat constructor)); done) | (refine Finds.mem2 (by assumption) ?_; first | rfl | assumption | (simp; done)) | (apply Finds.row; (· (repeat constructor)); (· assumption); (· rfl))))
      refine hK.out _ _ (by first | exact (hS.sx0.cons hS (by (repeat constructor))) | exact Sx.le (by assumption) (hS.sx0.cons hS (by (repeat constructor)))) (fun hHeld => ?_)
      clear hK K
      try simp only [Act.put, nz1, nz2, nz3]
      refine wpAnyH_ready (rs := [4]) (by kernel_rfl) (by simp) ?_
      refine consL 4 rfl (fun K hK => ?_) AllReadyH.nil
      (with_reducible apply s_stores hS); (· exact rowT36); (· exact rfl); (· exact rfl); (· exact rfl); (· (first | assumption | (simp [Value.oneCell']; done))); (· (repeat constructor)); (· (repeat constructor)); (· (repeat constructor)); clear hS; intro ws hS
      refine hK.out _ _ (by first | exact (hS.sx0.cons hS (by (repeat constructor))) | exact Sx.le (by assumption) (hS.sx0.cons hS (by (repeat constructor)))) (fun hHeld => ?_)
      clear hK K
      try simp only [Act.put, nz1, nz2, nz3]
      focus (refine takeN 5 (v := ?_) rfl (by kernel_rfl) ?_ ?_; rotate_left; focus (intro w hSw; clear hSw; go_simp; try with_reducible rfl))
      try simp only [Act.put, nz1, nz2, nz3]
      refine wpAnyH_done (by kernel_rfl) ?_ _
      refine NoPanic.normal ?_
    rotate_right
    focus
      (with_reducible apply s_loads hS); (· exact rowT36); (· exact rfl); (· (first | (apply Finds.box; (· (repeat constructor)); (· (repeat constructor)); done) | (refine Finds.mem2 (by assumption) ?_; first | rfl | assumption | (simp; done)) | (apply Finds.row; (· (repeat constructor)); (· assumption); (· rfl))))
      refine hK.out _ _ (by first | exact (hS.sx0.cons hS (by (repeat constructor))) | exact Sx.le (by assumption) (hS.sx0.cons hS (by (repeat constructor)))) (fun hHeld => ?_)
      clear hK K
      try simp only [Act.put, nz1, nz2, nz3]
      refine wpAnyH_ready (rs := [3]) (by kernel_rfl) (by simp) ?_
      refine consL 3 rfl (fun K hK => ?_) AllReadyH.nil
      (with_reducible apply s_stores hS); (· exact rowT24); (· exact rfl); (· exact rfl); (· exact rfl); (· (first | assumption | (simp [Value.oneCell']; done))); (· (repeat constructor)); (· (repeat constructor)); (· (repeat constructor)); clear hS; intro ws hS
      refine hK.out _ _ (by first | exact (hS.sx0.cons hS (by (repeat constructor))) | exact Sx.le (by assumption) (hS.sx0.cons hS (by (repeat constructor)))) (fun hHeld => ?_)
      clear hK K
      try simp only [Act.put, nz1, nz2, nz3]
      refine wpAnyH_ready (rs := [4]) (by kernel_rfl) (by simp) ?_
      refine consL 4 rfl (fun K hK => ?_) AllReadyH.nil
      (with_reducible apply s_stores hS); (· exact rowT36); (· exact rfl); (· exact rfl); (· exact rfl); (· (first | assumption | (simp [Value.oneCell']; done))); (· (repeat constructor)); (· (repeat constructor)); (· (repeat constructor)); clear hS; intro ws hS
      refine hK.out _ _ (by first | exact (hS.sx0.cons hS (by (repeat constructor))) | exact Sx.le (by assumption) (hS.sx0.cons hS (by (repeat constructor)))) (fun hHeld => ?_)
      clear hK K
      try simp only [Act.put, nz1, nz2, nz3]
      focus (refine takeN 5 (v := ?_) rfl (by kernel_rfl) ?_ ?_; rotate_left; focus (intro w hSw; clear hSw; go_simp; try with_reducible rfl))
      try simp only [Act.put, nz1, nz2, nz3]
      refine wpAnyH_done (by kernel_rfl) ?_ _
      refine NoPanic.normal ?_
    all_goals
      go_wp2_with fail
      refine ret_cell2_tmp (n := 3) (n2 := 4) Tryz.results9 rfl rfl hS (by (repeat constructor)) (by rfl) (by (repeat constructor)) (by rfl) rowT24 rowT36 rfl ?_
      replace hS := hS.front (x := .row 50 2 _ _ _) (by (repeat constructor))
      obtain ⟨m2, hS2, hle2, hrd⟩ := hS.settleRow (L := itL) 0 rfl HC.out hb1.out
      have hfin := hS2.done
      exact ⟨_, m2, rfl, ⟨⟨M.cap, M.dim, M.l⟩, ⟨5, [], [], 0⟩, 0, q24, c24, none, 0, none, 0, HD.out.1.symm, HD.out.2.1.symm, HD.out.2.2.symm, rfl, hrd, Lay.nil_rd _ _, Lay.nil_rd _ _⟩, ⟨hfin.kept, hfin.has, hfin.apart, hfin.know, HLE.out.trans hle2, hfin.new⟩⟩
set_option maxRecDepth 100000 in
set_option maxHeartbeats 8000000 in
theorem do_delc (m : Mem) (w : World) (hm : m.In w) (hG : ShAt m) (q : Option Addr) (c : Nat) (M : Md) (h : itL.list.rd m [.slice q M.l.length c] M.l) (kind id kk seed : Int) (v : List Int) (qv : Option Addr) (cv : Nat) (hv : vecL.rd m [.slice qv v.length cv] v) (hsd : seed ≤ 9223372036854775807)
    (hok : okM M) (hoa : okA ⟨kind, id, kk, seed, v⟩ M.dim M.cap) (hkind : kind = 3) (u : List Int) (hg : getM M.l id = some u) :
    Calls Tryz.prog 9 #[.agg #[.int .i64 M.cap, .int .i64 M.dim, .slice q M.l.length c], .agg #[.int .i64 kind, .int .i64 id, .int .i64 kk, .int .i64 seed, .slice qv v.length cv]] w (Ret w m (DoQ M ⟨kind, id, kk, seed, v⟩)) := by
  have hS := St.start hm
  have A0 := Lib.hid h
  have A1 := Lib.hid hv
  have HG := Lib.hid hG
  have hn : M.l.length ≤ 256 := by have := hok.2.2.1; have := hok.1; omega
  have hl : M.l.length ≤ 1000 := by omega
  have hb1 : Hid (M.l.length * itL.bytes ≤ 140737488355328) := by show _ * 32 ≤ _; omega
  have HN := Lib.hid hn
  have HSo := Lib.hid hok.2.2.2.1
  have HCk : Hid (chkM M = 0) := if_pos hok
  have HCa : Hid (chkA ⟨kind, id, kk, seed, v⟩ M.dim M.cap = 0) := if_pos hoa
  obtain ⟨d1, d2, d3⟩ := doM_ok hok hoa
  have e0 : (doR M ⟨kind, id, kk, seed, v⟩).e = 0 ∧ doR M ⟨kind, id, kk, seed, v⟩ = rp0 := by
    obtain ⟨h1, h2, h3, h4⟩ := doR_del (m := M) (a := ⟨kind, id, kk, seed, v⟩) hkind
    rw [if_neg (by simp only; rw [hg]; simp)] at h1
    refine ⟨h1, ?_⟩
    generalize doR M ⟨kind, id, kk, seed, v⟩ = r at *
    cases r
    simp only at h1 h2 h3 h4
    subst h1 h2 h3 h4
    rfl
  have e2 : doL M ⟨kind, id, kk, seed, v⟩ = delL id M.l := doL_del hkind e0.1
  rw [e2] at d1
  rw [e0.2] at d2
  have HD := Lib.hid (And.intro d1 (And.intro d2 d3))
  have HGe := Lib.hid hg
  clear h hv hG hn hok hoa d1 d2 d3 e0 e2 hg
  subst hkind
  go_enter Tryz.func9, Tryz.ntmps9
  go_wp2_with (first
    | ((with_reducible refine' Wl.out ?_; apply k_box (ty := 24) (y := (.tmp 0)) hS); (· exact .mk); clear hS; intro w2 b2 hS)
    | ((with_reducible refine' Wl.out ?_; apply k_box hS); (· exact .mk); clear hS; intro _ _ hS)
    | ((with_reducible refine' Wl.out ?_; apply k_alloc hS); (· exact .mk); clear hS; intro _ _ hS)
    | ((with_reducible refine' Wl.out ?_; apply k_load hS); (· exact .mk))
    | ((with_reducible refine' Wl.out ?_; apply k_loads hS); (· exact .mk))
    | go_skip
    | ((with_reducible refine' Wl.out ?_; apply kg_load hS); iterate 2 (· exact .mk))
    | ((with_reducible refine' Wl.out ?_; apply kg_loads hS); iterate 2 (· exact .mk))
    | ((with_reducible refine' Wl.out ?_; refine' wg_case ?_ ?_) <;> (intro hgW; (try (have hg2 := hgW; simp [go_sem] at hg2)); (first | (exfalso; assumption) | ((with_reducible refine' Wl.out ?_; apply k_no hgW)) | ((with_reducible refine' Wl.out ?_; apply kg_load hS ⟨hgW⟩); (· exact .mk)) | ((with_reducible refine' Wl.out ?_; apply kg_loads hS ⟨hgW⟩); (· exact .mk))); clear hgW))
    | ((with_reducible refine' Wl.out ?_; apply k_store hS); (· exact .mk); clear hS; intro ws hS)
    | ((with_reducible refine' Wl.out ?_; apply k_storeR hS); (· exact .mk); clear hS; intro ws hS)
    | ((with_reducible refine' Wl.out ?_; apply k_stores hS); (· exact .mk); clear hS; intro ws hS)
    | (go_at_call 17; refine (mcheck_c m _ hS.inw _ _ M A0.out).mono ?_; rintro e' wq ⟨_, mq, rfl, rfl, hk⟩; replace hS := hS.grow (grownBy_of_below hk.below); clear hk; rw [HCk.out])
    | (go_at_call 27; refine (acheck_c m _ hS.inw HG.out _ _ _ _ _ _ _ A1.out hsd _ _).mono ?_; rintro e' wq ⟨_, mq, rfl, rfl, hk⟩; replace hS := hS.grow (grownBy_of_below hk.below); clear hk; rw [HCa.out])
    | (go_at_call 28; refine (mown_c m _ hS.inw _ _ M A0.out).mono ?_; rintro e' w24 ⟨q24, c24, cells24, m24, rfl, hc24, hk24⟩; have HLE := Lib.hid hk24.le; have HC := Lib.hid hc24; replace hS := hS.callOwn hk24; clear hk24 hc24; simp only [List.cons_append, List.nil_append] at hS)
    | (go_at_call 29; have hrd := St.rdOwn (L := itL) (xs := M.l) hS 0 rfl rfl HC.out hb1.out; refine (mfind_c (World.mem _) _ (World.mem_in _) _ _ _ _ M.l hrd HSo.out hl _ rfl rfl).mono ?_; clear hrd; rintro e' w29 ⟨_, m29, rfl, ⟨i, B, hP, hB, rfl⟩, hk⟩; replace hS := hS.grow (grownBy_of_below hk.below); clear hk; have HY := Lib.hid (find_yes HSo.out HGe.out hP.out); obtain rfl : B = true := hB.out.trans HY.out.1; have zi : IntKind.i64.wrap ((i : Int) + 1) = (i : Int) + 1 := wr64 (by omega) (by have := HY.out.2.1; omega))
    | (go_at_call 32; replace hS := hS.front (x := .row 50 2 _ _ _) (by (repeat constructor)); refine (delete_c (St.sub (ls := [_]) hS) HY.out.2.1 hl (CellsOf.one1 HC.out)).mono ?_; rintro e' w48 ⟨rfl, hk⟩; replace hS := St.lendL (ls := [_]) hS hk; clear hk; simp only [List.cons_append, List.nil_append] at hS))
  replace hS := hS.drew
  refine startL (S := Sx _ [(b2, _)]) (by kernel_rfl) (hS.sx0.cons hS (by (repeat constructor))) (fun _ _ _ _ => trivial) (fun hHeld => ?_)
  refine takeN 0 rfl (by kernel_rfl) (yield_loads rfl rowT24 rfl (by (first | (apply FindsX.box; (· (repeat constructor)); (· (repeat constructor)); done) | (refine FindsX.mem (by assumption) ?_; first | rfl | assumption | (simp; done))))) ?_
  try simp only [Act.put, nz1, nz2, nz3]
  focus (refine takeN 2 (v := ?_) rfl (by kernel_rfl) ?_ ?_; rotate_left; focus (intro w hSw; clear hSw; go_simp; try with_reducible rfl))
  try simp only [Act.put, nz1, nz2, nz3]
  refine wpAnyH_ready (rs := [1, 3]) (by kernel_rfl) (by simp) ?_
  refine consL 1 rfl (fun K hK => ?_) (consL 3 rfl (fun K hK => ?_) AllReadyH.nil)
  rotate_right
  focus
    (with_reducible apply s_stores hS); (· exact rowT24); (· exact rfl); (· exact rfl); (· exact rfl); (· (first | assumption | (simp [Value.oneCell']; done))); (· (repeat constructor)); (· (repeat constructor)); (· (repeat constructor)); clear hS; intro ws hS
    refine hK.out _ _ (by first | exact (hS.sx0.cons hS (by (repeat constructor))) | exact Sx.le (by assumption) (hS.sx0.cons hS (by (repeat constructor)))) (fun hHeld => ?_)
    clear hK K
    try simp only [Act.put, nz1, nz2, nz3]
    refine wpAnyH_ready (rs := [1]) (by kernel_rfl) (by simp) ?_
    refine consL 1 rfl (fun K hK => ?_) AllReadyH.nil
    (with_reducible apply s_loads hS); (· exact rowT36); (· exact rfl); (· (first | (apply Finds.box; (· (repeat constructor)); (· (repeat constructor)); done) | (refine Finds.mem2 (by assumption) ?_; first | rfl | assumption | (simp; done)) | (apply Finds.row; (· (repeat constructor)); (· assumption); (· rfl))))
    refine hK.out _ _ (by first | exact (hS.sx0.cons hS (by (repeat constructor))) | exact Sx.le (by assumption) (hS.sx0.cons hS (by (repeat constructor)))) (fun hHeld => ?_)
    clear hK K
    try simp only [Act.put, nz1, nz2, nz3]
    refine wpAnyH_ready (rs := [4]) (by kernel_rfl) (by simp) ?_
    refine consL 4 rfl (fun K hK => ?_) AllReadyH.nil
    (with_reducible apply s_stores hS); (· exact rowT36); (· exact rfl); (· exact rfl); (· exact rfl); (· (first | assumption | (simp [Value.oneCell']; done))); (· (repeat constructor)); (· (repeat constructor)); (· (repeat constructor)); clear hS; intro ws hS
    refine hK.out _ _ (by first | exact (hS.sx0.cons hS (by (repeat constructor))) | exact Sx.le (by assumption) (hS.sx0.cons hS (by (repeat constructor)))) (fun hHeld => ?_)
    clear hK K
    try simp only [Act.put, nz1, nz2, nz3]
    focus (refine takeN 5 (v := ?_) rfl (by kernel_rfl) ?_ ?_; rotate_left; focus (intro w hSw; clear hSw; go_simp; try with_reducible rfl))
    try simp only [Act.put, nz1, nz2, nz3]
    refine wpAnyH_done (by kernel_rfl) ?_ _
    refine NoPanic.normal ?_
  rotate_right
  focus
    (with_reducible apply s_loads hS); (· exact rowT36); (· exact rfl); (· (first | (apply Finds.box; (· (repeat constructor)); (· (repeat constructor)); done) | (refine Finds.mem2 (by assumption) ?_; first | rfl | assumption | (simp; done)) | (apply Finds.row; (· (repeat constructor)); (· assumption); (· rfl))))
    refine hK.out _ _ (by first | exact (hS.sx0.cons hS (by (repeat constructor))) | exact Sx.le (by assumption) (hS.sx0.cons hS (by (repeat constructor)))) (fun hHeld => ?_)
    clear hK K
    try simp only [Act.put, nz1, nz2, nz3]
    refine wpAnyH_ready (rs := [3]) (by kernel_rfl) (by simp) ?_
    refine consL 3 rfl (fun K hK => ?_) AllReadyH.nil
    (with_reducible apply s_stores hS); (· exact rowT24); (· exact rfl); (· exact rfl); (· exact rfl); (· (first | assumption | (simp [Value.oneCell']; done))); (· (repeat constructor)); (· (repeat constructor)); (· (repeat constructor)); clear hS; intro ws hS
    refine hK.out _ _ (by first | exact (hS.sx0.cons hS (by (repeat constructor))) | exact Sx.le (by assumption) (hS.sx0.cons hS (by (repeat constructor)))) (fun hHeld => ?_)
    clear hK K
    try simp only [Act.put, nz1, nz2, nz3]
    refine wpAnyH_ready (rs := [4]) (by kernel_rfl) (by simp) ?_
    refine consL 4 rfl (fun K hK => ?_) AllReadyH.nil
    (with_reducible apply s_stores hS); (· exact rowT36); (· exact rfl); (· exact rfl); (· exact rfl); (· (first | assumption | (simp [Value.oneCell']; done))); (· (repeat constructor)); (· (repeat constructor)); (· (repeat constructor)); clear hS; intro ws hS
    refine hK.out _ _ (by first | exact (hS.sx0.cons hS (by (repeat constructor))) | exact Sx.le (by assumption) (hS.sx0.cons hS (by (repeat constructor)))) (fun hHeld => ?_)
    clear hK K
    try simp only [Act.put, nz1, nz2, nz3]
    focus (refine takeN 5 (v := ?_) rfl (by kernel_rfl) ?_ ?_; rotate_left; focus (intro w hSw; clear hSw; go_simp; try with_reducible rfl))
    try simp only [Act.put, nz1, nz2, nz3]
    refine wpAnyH_done (by kernel_rfl) ?_ _
    refine NoPanic.normal ?_
  all_goals
    go_wp2_with fail
    refine ret_cell2_tmp (n := 3) (n2 := 4) Tryz.results9 rfl rfl hS (by (repeat constructor)) (by rfl) (by (repeat constructor)) (by rfl) rowT24 rowT36 rfl ?_
    replace hS := hS.front (x := .row 50 2 _ _ _) (by (repeat constructor))
    have hT : (M.l.take i ++ M.l.drop (i + 1)).length = M.l.length - 1 := by have := HY.out.2.1; simp; omega
    have hci := (HC.out.cut i).1.append (HC.out.cut (i + 1)).2
    obtain ⟨m2, hS2, hle2, hrd⟩ := St.settleRow' (L := itL) (xs := M.l.take i ++ M.l.drop (i + 1)) hS 0 hT rfl hci (by rw [hT]; show _ * 32 ≤ _; have := HN.out; omega)
    have hfin := hS2.done
    rw [← hT] at hrd
    refine ⟨_, m2, rfl, ⟨⟨M.cap, M.dim, M.l.take i ++ M.l.drop (i + 1)⟩, rp0, 0, q24, c24, none, 0, none, 0, ?_, HD.out.2.1.symm, HD.out.2.2.symm, by rw [← hT]; rfl, hrd, Lay.nil_rd _ _, Lay.nil_rd _ _⟩, ⟨hfin.kept, hfin.has, hfin.apart, hfin.know, HLE.out.trans hle2, hfin.new⟩⟩
    rw [← HY.out.2.2.2]; exact HD.out.1.symm
set_option maxRecDepth 100000 in
set_option maxHeartbeats 8000000 in
theorem do_getc (m : Mem) (w : World) (hm : m.In w) (hG : ShAt m) (q : Option Addr) (c : Nat) (M : Md) (h : itL.list.rd m [.slice q M.l.length c] M.l) (kind id kk seed : Int) (v : List Int) (qv : Option Addr) (cv : Nat) (hv : vecL.rd m [.slice qv v.length cv] v) (hsd : seed ≤ 9223372036854775807)
    (hok : okM M) (hoa : okA ⟨kind, id, kk, seed, v⟩ M.dim M.cap) (hkind : kind = 4) (u : List Int) (hg : getM M.l id = some u) :
    Calls Tryz.prog 9 #[.agg #[.int .i64 M.cap, .int .i64 M.dim, .slice q M.l.length c], .agg #[.int .i64 kind, .int .i64 id, .int .i64 kk, .int .i64 seed, .slice qv v.length cv]] w (Ret w m (DoQ M ⟨kind, id, kk, seed, v⟩)) := by
  have hS := St.start hm
  have A0 := Lib.hid h
  have A1 := Lib.hid hv
  have HG := Lib.hid hG
  have hn : M.l.length ≤ 256 := by have := hok.2.2.1; have := hok.1; omega
  have hl : M.l.length ≤ 1000 := by omega
  have hb1 : Hid (M.l.length * itL.bytes ≤ 140737488355328) := by show _ * 32 ≤ _; omega
  have HN := Lib.hid hn
  have HSo := Lib.hid hok.2.2.2.1
  have HCk : Hid (chkM M = 0) := if_pos hok
  have HCa : Hid (chkA ⟨kind, id, kk, seed, v⟩ M.dim M.cap = 0) := if_pos hoa
  obtain ⟨d1, d2, d3⟩ := doM_ok hok hoa
  have e1 : doR M ⟨kind, id, kk, seed, v⟩ = { rp0 with v := u } := by rw [doR_get hkind]; simp only; rw [hg]
  have e2 : doL M ⟨kind, id, kk, seed, v⟩ = M.l := doL_read (by simp only; omega)
  rw [e2] at d1
  rw [e1] at d2
  have HD := Lib.hid (And.intro d1 (And.intro d2 d3))
  have HGe := Lib.hid hg
  clear h hv hG hn hok hoa d1 d2 d3 e1 e2 hg
  subst hkind
  go_enter Tryz.func9, Tryz.ntmps9
  go_wp2_with (first
    | ((with_reducible refine' Wl.out ?_; apply k_box (ty := 24) (y := (.tmp 0)) hS); (· exact .mk); clear hS; intro w2 b2 hS)
    | ((with_reducible refine' Wl.out ?_; apply k_box hS); (· exact .mk); clear hS; intro _ _ hS)
    | ((with_reducible refine' Wl.out ?_; apply k_alloc hS); (· exact .mk); clear hS; intro _ _ hS)
    | ((with_reducible refine' Wl.out ?_; apply k_load hS); (· exact .mk))
    | ((with_reducible refine' Wl.out ?_; apply k_loads hS); (· exact .mk))
    | go_skip
    | ((with_reducible refine' Wl.out ?_; apply kg_load hS); iterate 2 (· exact .mk))
    | ((with_reducible refine' Wl.out ?_; apply kg_loads hS); iterate 2 (· exact .mk))
    | ((with_reducible refine' Wl.out ?_; refine' wg_case ?_ ?_) <;> (intro hgW; (try (have hg2 := hgW; simp [go_sem] at hg2)); (first | (exfalso; assumption) | ((with_reducible refine' Wl.out ?_; apply k_no hgW)) | ((with_reducible refine' Wl.out ?_; apply kg_load hS ⟨hgW⟩); (· exact .mk)) | ((with_reducible refine' Wl.out ?_; apply kg_loads hS ⟨hgW⟩); (· exact .mk))); clear hgW))
    | ((with_reducible refine' Wl.out ?_; apply k_store hS); (· exact .mk); clear hS; intro ws hS)
    | ((with_reducible refine' Wl.out ?_; apply k_storeR hS); (· exact .mk); clear hS; intro ws hS)
    | ((with_reducible refine' Wl.out ?_; apply k_stores hS); (· exact .mk); clear hS; intro ws hS)
    | (go_at_call 17; refine (mcheck_c m _ hS.inw _ _ M A0.out).mono ?_; rintro e' wq ⟨_, mq, rfl, rfl, hk⟩; replace hS := hS.grow (grownBy_of_below hk.below); clear hk; rw [HCk.out])
    | (go_at_call 27; refine (acheck_c m _ hS.inw HG.out _ _ _ _ _ _ _ A1.out hsd _ _).mono ?_; rintro e' wq ⟨_, mq, rfl, rfl, hk⟩; replace hS := hS.grow (grownBy_of_below hk.below); clear hk; rw [HCa.out])
    | (go_at_call 28; refine (mown_c m _ hS.inw _ _ M A0.out).mono ?_; rintro e' w24 ⟨q24, c24, cells24, m24, rfl, hc24, hk24⟩; have HLE := Lib.hid hk24.le; have HC := Lib.hid hc24; replace hS := hS.callOwn hk24; clear hk24 hc24; simp only [List.cons_append, List.nil_append] at hS)
    | (go_at_call 29; have hrd := St.rdOwn (L := itL) (xs := M.l) hS 0 rfl rfl HC.out hb1.out; refine (mfind_c (World.mem _) _ (World.mem_in _) _ _ _ _ M.l hrd HSo.out hl _ rfl rfl).mono ?_; clear hrd; rintro e' w29 ⟨_, m29, rfl, ⟨i, B, hP, hB, rfl⟩, hk⟩; replace hS := hS.grow (grownBy_of_below hk.below); clear hk; have HY := Lib.hid (find_yes HSo.out HGe.out hP.out); obtain rfl : B = true := hB.out.trans HY.out.1; obtain ⟨g, rfl, g1, g2⟩ := row_head (hS.row 0 rfl) (by have := HY.out.2.1; omega); obtain ⟨qx, cx, hvx, hk0, hk1, _, _⟩ := item_parts HC.out i HY.out.2.1; have HVX := Lib.hid hvx; have hiz : (i : Int) < M.l.length := (by have := HY.out.2.1; omega); clear hvx hk0 g1 g2)
    | (go_at_call 31; refine (vclone_c _ _ hS.inw _ HVX.out).mono ?_; rintro e' w64 ⟨q64, c64, news64, rfl, hc64, hk64⟩; replace hS := hS.callOwn hk64; clear hk64; simp only [List.cons_append, List.nil_append] at hS))
  replace hS := hS.drew
  refine startL (S := Sx _ [(b2, _)]) (by kernel_rfl) (hS.sx0.cons hS (by (repeat constructor))) (fun _ _ _ _ => trivial) (fun hHeld => ?_)
  refine takeN 0 rfl (by kernel_rfl) (yield_loads rfl rowT24 rfl (by (first | (apply FindsX.box; (· (repeat constructor)); (· (repeat constructor)); done) | (refine FindsX.mem (by assumption) ?_; first | rfl | assumption | (simp; done))))) ?_
  try simp only [Act.put, nz1, nz2, nz3]
  focus (refine takeN 2 (v := ?_) rfl (by kernel_rfl) ?_ ?_; rotate_left; focus (intro w hSw; clear hSw; go_simp; try with_reducible rfl))
  try simp only [Act.put, nz1, nz2, nz3]
  refine wpAnyH_ready (rs := [1, 3]) (by kernel_rfl) (by simp) ?_
  refine consL 1 rfl (fun K hK => ?_) (consL 3 rfl (fun K hK => ?_) AllReadyH.nil)
  rotate_right
  focus
    (with_reducible apply s_stores hS); (· exact rowT24); (· exact rfl); (· exact rfl); (· exact rfl); (· (first | assumption | (simp [Value.oneCell']; done))); (· (repeat constructor)); (· (repeat constructor)); (· (repeat constructor)); clear hS; intro ws hS
    refine hK.out _ _ (by first | exact (hS.sx0.cons hS (by (repeat constructor))) | exact Sx.le (by assumption) (hS.sx0.cons hS (by (repeat constructor)))) (fun hHeld => ?_)
    clear hK K
    try simp only [Act.put, nz1, nz2, nz3]
    refine wpAnyH_ready (rs := [1]) (by kernel_rfl) (by simp) ?_
    refine consL 1 rfl (fun K hK => ?_) AllReadyH.nil
    (with_reducible apply s_loads hS); (· exact rowT36); (· exact rfl); (· (first | (apply Finds.box; (· (repeat constructor)); (· (repeat constructor)); done) | (refine Finds.mem2 (by assumption) ?_; first | rfl | assumption | (simp; done)) | (apply Finds.row; (· (repeat constructor)); (· assumption); (· rfl))))
    refine hK.out _ _ (by first | exact (hS.sx0.cons hS (by (repeat constructor))) | exact Sx.le (by assumption) (hS.sx0.cons hS (by (repeat constructor)))) (fun hHeld => ?_)
    clear hK K
    try simp only [Act.put, nz1, nz2, nz3]
    refine wpAnyH_ready (rs := [4]) (by kernel_rfl) (by simp) ?_
    refine consL 4 rfl (fun K hK => ?_) AllReadyH.nil
    (with_reducible apply s_stores hS); (· exact rowT36); (· exact rfl); (· exact rfl); (· exact rfl); (· (first | assumption | (simp [Value.oneCell']; done))); (· (repeat constructor)); (· (repeat constructor)); (· (repeat constructor)); clear hS; intro ws hS
    refine hK.out _ _ (by first | exact (hS.sx0.cons hS (by (repeat constructor))) | exact Sx.le (by assumption) (hS.sx0.cons hS (by (repeat constructor)))) (fun hHeld => ?_)
    clear hK K
    try simp only [Act.put, nz1, nz2, nz3]
    focus (refine takeN 5 (v := ?_) rfl (by kernel_rfl) ?_ ?_; rotate_left; focus (intro w hSw; clear hSw; go_simp; try with_reducible rfl))
    try simp only [Act.put, nz1, nz2, nz3]
    refine wpAnyH_done (by kernel_rfl) ?_ _
    refine NoPanic.normal ?_
  rotate_right
  focus
    (with_reducible apply s_loads hS); (· exact rowT36); (· exact rfl); (· (first | (apply Finds.box; (· (repeat constructor)); (· (repeat constructor)); done) | (refine Finds.mem2 (by assumption) ?_; first | rfl | assumption | (simp; done)) | (apply Finds.row; (· (repeat constructor)); (· assumption); (· rfl))))
    refine hK.out _ _ (by first | exact (hS.sx0.cons hS (by (repeat constructor))) | exact Sx.le (by assumption) (hS.sx0.cons hS (by (repeat constructor)))) (fun hHeld => ?_)
    clear hK K
    try simp only [Act.put, nz1, nz2, nz3]
    refine wpAnyH_ready (rs := [3]) (by kernel_rfl) (by simp) ?_
    refine consL 3 rfl (fun K hK => ?_) AllReadyH.nil
    (with_reducible apply s_stores hS); (· exact rowT24); (· exact rfl); (· exact rfl); (· exact rfl); (· (first | assumption | (simp [Value.oneCell']; done))); (· (repeat constructor)); (· (repeat constructor)); (· (repeat constructor)); clear hS; intro ws hS
    refine hK.out _ _ (by first | exact (hS.sx0.cons hS (by (repeat constructor))) | exact Sx.le (by assumption) (hS.sx0.cons hS (by (repeat constructor)))) (fun hHeld => ?_)
    clear hK K
    try simp only [Act.put, nz1, nz2, nz3]
    refine wpAnyH_ready (rs := [4]) (by kernel_rfl) (by simp) ?_
    refine consL 4 rfl (fun K hK => ?_) AllReadyH.nil
    (with_reducible apply s_stores hS); (· exact rowT36); (· exact rfl); (· exact rfl); (· exact rfl); (· (first | assumption | (simp [Value.oneCell']; done))); (· (repeat constructor)); (· (repeat constructor)); (· (repeat constructor)); clear hS; intro ws hS
    refine hK.out _ _ (by first | exact (hS.sx0.cons hS (by (repeat constructor))) | exact Sx.le (by assumption) (hS.sx0.cons hS (by (repeat constructor)))) (fun hHeld => ?_)
    clear hK K
    try simp only [Act.put, nz1, nz2, nz3]
    focus (refine takeN 5 (v := ?_) rfl (by kernel_rfl) ?_ ?_; rotate_left; focus (intro w hSw; clear hSw; go_simp; try with_reducible rfl))
    try simp only [Act.put, nz1, nz2, nz3]
    refine wpAnyH_done (by kernel_rfl) ?_ _
    refine NoPanic.normal ?_
  all_goals
    go_wp2_with fail
    refine ret_cell2_tmp (n := 3) (n2 := 4) Tryz.results9 rfl rfl hS (by (repeat constructor)) (by rfl) (by (repeat constructor)) (by rfl) rowT24 rowT36 rfl ?_
    replace hS := (hS.front (x := .row 50 2 _ _ _) (by (repeat constructor))).front (x := .row 51 1 _ _ _) (by (repeat constructor))
    have hbx : (M.l.getD i itz).v.length * (Lay.int .i16).bytes ≤ 140737488355328 := by obtain ⟨_, _, e, _, _, h3, _⟩ := HVX.out; cases e; exact h3
    obtain ⟨m1, hS1, hle1, hrd1⟩ := hS.settleRow (L := Lay.int .i16) 0 rfl hc64 hbx
    obtain ⟨m2, hS2, hle2, hrd⟩ := hS1.settleRow (L := itL) 0 rfl (HC.out.mono hle1) hb1.out
    have hfin := hS2.done
    have hrd2 : vecL.rd m2 [.slice q64 (M.l.getD i itz).v.length c64] (M.l.getD i itz).v := Lay.mono _ hle2 hrd1
    refine ⟨_, m2, rfl, ⟨⟨M.cap, M.dim, M.l⟩, { rp0 with v := (M.l.getD i itz).v }, 0, some ⟨g, 0, none⟩, c24, q64, c64, none, 0, HD.out.1.symm, ?_, HD.out.2.2.symm, rfl, hrd, hrd2, Lay.nil_rd _ _⟩, ⟨hfin.kept, hfin.has, hfin.apart, hfin.know, HLE.out.trans (hle1.trans hle2), hfin.new⟩⟩
    rw [HY.out.2.2.1]; exact HD.out.2.1.symm
end Go.Proofs.YtnbhhdncbajkgaaGreatDoor
/- vec.Same; model.Same. -/
namespace Go.Proofs.YtnbhhdncbajkgaaGreatDoor
set_option linter.unusedVariables false
set_option linter.unusedSimpArgs false
open Go.RowKit Go.Shelf
theorem take_snoc_v {a : List Int} {k : Nat} (h : k < a.length) : a.take (k + 1) = a.take k ++ [a.getD k 0] := take_getD h
set_option maxRecDepth 100000 in
set_option maxHeartbeats 4000000 in
theorem veq_c (m : Mem) (w : World) (hm : m.In w) (v u : Value) (a b : List Int) (ha : vecL.rd m [v] a) (hb : vecL.rd m [u] b) :
    Calls Tryz.prog 78 #[v, u] w (Ret w m fun v _ => v = .bool (decide (a = b))) := by
  have hS := St.start hm
  obtain ⟨p, c, rfl, _, a2, _, ra⟩ := Lay.list_open ha
  obtain ⟨q, d, rfl, _, _, _, rb⟩ := Lay.list_open hb
  have HA := Lib.hid ra
  have HB := Lib.hid rb
  have hla : a.length ≤ 9223372036854775807 := by simp only [maxLen] at a2; omega
  clear ha hb ra rb a2
  by_cases hl : a.length = b.length
  · have hl2 : ((a.length : Int) != b.length) = false := by simp [hl]
    have HLn := Lib.hid hl
    have Hd : Hid (∀ B, B = decide (a = b) → Value.bool B = .bool (decide (a = b))) := fun B h => by rw [h]
    obtain ⟨R, hR⟩ : ∃ R, R = decide (a = b) := ⟨_, rfl⟩
    have HRR := Lib.hid hR
    rw [← hR]
    clear hl Hd hR
    go_enter Tryz.func78, Tryz.ntmps78
    go_wp2_with (first
    | ((with_reducible refine' Wl.out ?_; apply k_load hS); (· exact .mk)))
    go_loopw [13] (fun i wr => ∃ k : Nat, k ≤ a.length ∧ i = .int .i64 k ∧ Hid (a.take k = b.take k) ∧ St [] w m wr [] m) (fun i _ => a.length - (intOf i).toNat)
    case atStart => exact ⟨0, Nat.zero_le _, rfl, by simp [Hid], hS⟩
    case round =>
      clear hS
      obtain ⟨k, hk, rfl, hP, hS⟩ := hrel
      by_cases hlt : k < a.length
      · have hlt' : k < b.length := by have := HLn.out; omega
        obtain ⟨b1, o1, rfl, hcx, _⟩ := HA.out.intAt k hlt
        obtain ⟨b2, o2, rfl, hcy, _⟩ := HB.out.intAt k hlt'
        have hka : (k : Int) < a.length := by omega
        have hkb : (k : Int) < b.length := by omega
        have hN : Hid (a.getD k 0 = b.getD k 0 → a.take (k + 1) = b.take (k + 1)) := fun e => by rw [take_getD hlt, take_getD hlt', hP.out, e]
        have hM : Hid (a.getD k 0 ≠ b.getD k 0 → R = false) := fun e => by rw [HRR.out]; exact decide_eq_false fun h => e (by rw [h])
        clear hP
        generalize a.getD k 0 = x at *
        generalize b.getD k 0 = y at *
        by_cases e1 : x = y
        · have HN := Lib.hid (hN.out e1)
          have hxy : (x != y) = false := by simp [e1]
          clear e1 hN hM
          go_wp2_with (first
    | ((with_reducible refine' Wl.out ?_; apply k_load hS); (· exact .mk)))
          replace hS := hS.drew
          refine startL (S := Sx _ []) (by kernel_rfl) hS.sx0 (fun _ _ _ _ => trivial) (fun hHeld => ?_)
          focus (refine takeN 0 (v := ?_) rfl (by kernel_rfl) ?_ ?_; rotate_left; focus (intro w hSw; clear hSw; go_simp; try with_reducible rfl))
          try simp only [Act.put, nz1, nz2, nz3]
          focus (refine takeN 1 (v := ?_) rfl (by kernel_rfl) ?_ ?_; rotate_left; focus (intro w hSw; clear hSw; go_simp; try with_reducible rfl))
          try simp only [Act.put, nz1, nz2, nz3]
          focus (refine takeN 2 (v := ?_) rfl (by kernel_rfl) ?_ ?_; rotate_left; focus (intro w hSw; clear hSw; go_simp; try with_reducible rfl))
          try simp only [Act.put, nz1, nz2, nz3]
          refine takeN 3 rfl (by kernel_rfl) (yield_load rfl Tryz.underlying51 rfl rfl (by (first | (apply FindX.box; (· (repeat constructor)); rfl) | exact FindX.mem (by assumption)))) ?_
          try simp only [Act.put, nz1, nz2, nz3]
          focus (refine takeN 4 (v := ?_) rfl (by kernel_rfl) ?_ ?_; rotate_left; focus (intro w hSw; clear hSw; go_simp; try with_reducible rfl))
          try simp only [Act.put, nz1, nz2, nz3]
          focus (refine takeN 5 (v := ?_) rfl (by kernel_rfl) ?_ ?_; rotate_left; focus (intro w hSw; clear hSw; go_simp; try with_reducible rfl))
          try simp only [Act.put, nz1, nz2, nz3]
          focus (refine takeN 6 (v := ?_) rfl (by kernel_rfl) ?_ ?_; rotate_left; focus (intro w hSw; clear hSw; go_simp; try with_reducible rfl))
          try simp only [Act.put, nz1, nz2, nz3]
          refine takeN 7 rfl (by kernel_rfl) (yield_load rfl Tryz.underlying51 rfl rfl (by (first | (apply FindX.box; (· (repeat constructor)); rfl) | exact FindX.mem (by assumption)))) ?_
          try simp only [Act.put, nz1, nz2, nz3]
          focus (refine takeN 8 (v := ?_) rfl (by kernel_rfl) ?_ ?_; rotate_left; focus (intro w hSw; clear hSw; go_simp; try with_reducible rfl))
          try simp only [Act.put, nz1, nz2, nz3]
          refine wpAnyH_done (by kernel_rfl) ?_ _
          refine NoPanic.normal ?_
          all_goals go_wp2_with fail
          go_roundw
          case rel => exact ⟨k + 1, hlt, by go_num, HN, hS⟩
          case measure => simp [intOf]; omega
        · have HM := Lib.hid (hM.out e1)
          have hxy : (x != y) = true := by simp [e1]
          clear hN hM
          go_wp2_with (first
    | ((with_reducible refine' Wl.out ?_; apply k_load hS); (· exact .mk)))
          replace hS := hS.drew
          refine startL (S := Sx _ []) (by kernel_rfl) hS.sx0 (fun _ _ _ _ => trivial) (fun hHeld => ?_)
          focus (refine takeN 0 (v := ?_) rfl (by kernel_rfl) ?_ ?_; rotate_left; focus (intro w hSw; clear hSw; go_simp; try with_reducible rfl))
          try simp only [Act.put, nz1, nz2, nz3]
          focus (refine takeN 1 (v := ?_) rfl (by kernel_rfl) ?_ ?_; rotate_left; focus (intro w hSw; clear hSw; go_simp; try with_reducible rfl))
          try simp only [Act.put, nz1, nz2, nz3]
          focus (refine takeN 2 (v := ?_) rfl (by kernel_rfl) ?_ ?_; rotate_left; focus (intro w hSw; clear hSw; go_simp; try with_reducible rfl))
          try simp only [Act.put, nz1, nz2, nz3]
          refine takeN 3 rfl (by kernel_rfl) (yield_load rfl Tryz.underlying51 rfl rfl (by (first | (apply FindX.box; (· (repeat constructor)); rfl) | exact FindX.mem (by assumption)))) ?_
          try simp only [Act.put, nz1, nz2, nz3]
          focus (refine takeN 4 (v := ?_) rfl (by kernel_rfl) ?_ ?_; rotate_left; focus (intro w hSw; clear hSw; go_simp; try with_reducible rfl))
          try simp only [Act.put, nz1, nz2, nz3]
          focus (refine takeN 5 (v := ?_) rfl (by kernel_rfl) ?_ ?_; rotate_left; focus (intro w hSw; clear hSw; go_simp; try with_reducible rfl))
          try simp only [Act.put, nz1, nz2, nz3]
          focus (refine takeN 6 (v := ?_) rfl (by kernel_rfl) ?_ ?_; rotate_left; focus (intro w hSw; clear hSw; go_simp; try with_reducible rfl))
          try simp only [Act.put, nz1, nz2, nz3]
          refine takeN 7 rfl (by kernel_rfl) (yield_load rfl Tryz.underlying51 rfl rfl (by (first | (apply FindX.box; (· (repeat constructor)); rfl) | exact FindX.mem (by assumption)))) ?_
          try simp only [Act.put, nz1, nz2, nz3]
          focus (refine takeN 8 (v := ?_) rfl (by kernel_rfl) ?_ ?_; rotate_left; focus (intro w hSw; clear hSw; go_simp; try with_reducible rfl))
          try simp only [Act.put, nz1, nz2, nz3]
          refine wpAnyH_done (by kernel_rfl) ?_ _
          refine NoPanic.normal ?_
          all_goals go_wp2_with fail
          go_ret
          exact ⟨_, m, rfl, by rw [HM.out]; rfl, hS⟩
      · obtain rfl : k = a.length := by omega
        have HT : Hid (R = true) := by
          have := hP.out
          rw [List.take_length, HLn.out, List.take_length] at this
          show _ = _
          rw [HRR.out]; exact decide_eq_true this
        go_wp2_with (first
    | ((with_reducible refine' Wl.out ?_; apply k_load hS); (· exact .mk)))
        go_ret
        exact ⟨_, m, rfl, by rw [HT.out]; rfl, hS⟩
  · have hne : decide (a = b) = false := decide_eq_false fun e => hl (by rw [e])
    rw [hne]
    have hl2 : ((a.length : Int) != b.length) = true := by simp; omega
    clear hl hne
    go_enter Tryz.func78, Tryz.ntmps78
    go_wp2_with (first
    | ((with_reducible refine' Wl.out ?_; apply k_load hS); (· exact .mk)))
    go_ret
    exact ⟨_, m, rfl, rfl, hS⟩
set_option maxRecDepth 100000 in
set_option maxHeartbeats 4000000 in
theorem vsame_c (m : Mem) (w : World) (hm : m.In w) (v u : Value) (a b : List Int) (ha : vecL.rd m [v] a) (hb : vecL.rd m [u] b) :
    Calls Tryz.prog 49 #[v, u] w (Ret w m fun v _ => v = .bool (decide (a = b))) := by
  have hS := St.start hm
  have A0 := Lib.hid ha
  have A1 := Lib.hid hb
  obtain ⟨p, c, rfl, _⟩ := Lay.list_open ha
  obtain ⟨q, d, rfl, _⟩ := Lay.list_open hb
  clear ha hb
  obtain ⟨R, hR⟩ : ∃ R, R = decide (a = b) := ⟨_, rfl⟩
  have HR := Lib.hid hR
  rw [← hR]
  clear hR
  go_enter Tryz.func49, Tryz.ntmps49
  go_wp2_with (first
    | (go_at_call 78; refine (veq_c m _ hS.inw _ _ a b A0.out A1.out).mono ?_; rintro e' w7 ⟨_, m7, rfl, rfl, hk⟩; replace hS := hS.grow (grownBy_of_below hk.below); clear hk; rw [← HR.out]))
  go_ret
  exact ⟨_, m, rfl, rfl, hS⟩
set_option maxRecDepth 100000 in
set_option maxHeartbeats 4000000 in
theorem itsame_c (m : Mem) (w : World) (hm : m.In w) (x y : It) (p q : Option Addr) (c d : Nat) (ha : vecL.rd m [.slice p x.v.length c] x.v) (hb : vecL.rd m [.slice q y.v.length d] y.v) :
    Calls Tryz.prog 48 #[.agg #[.int .i64 x.id, .slice p x.v.length c], .agg #[.int .i64 y.id, .slice q y.v.length d]] w (Ret w m fun v _ => v = .bool (decide (x = y))) := by
  have hS := St.start hm
  have A0 := Lib.hid ha
  have A1 := Lib.hid hb
  clear ha hb
  obtain ⟨R, hR⟩ : ∃ R, R = decide (x = y) := ⟨_, rfl⟩
  rw [← hR]
  by_cases e1 : x.id = y.id
  · have e2 : Hid (R = decide (x.v = y.v)) := by
      show _ = _
      rw [hR]
      exact decide_eq_decide.2 ⟨fun h => by rw [h], fun h => It.ext' e1 h⟩
    clear hR
    go_enter Tryz.func48, Tryz.ntmps48
    go_wp2_with (first
    | ((with_reducible refine' Wl.out ?_; apply k_box (ty := 50) (y := (.tmp 0)) hS); (· exact .mk); clear hS; intro w2 b2 hS)
    | ((with_reducible refine' Wl.out ?_; apply k_box hS); (· exact .mk); clear hS; intro _ _ hS)
    | ((with_reducible refine' Wl.out ?_; apply k_load hS); (· exact .mk))
    | go_skip
    | ((with_reducible refine' Wl.out ?_; apply kg_load hS); iterate 2 (· exact .mk))
    | ((with_reducible refine' Wl.out ?_; refine' wg_case ?_ ?_) <;> (intro hgW; (try (have hg2 := hgW; simp [go_sem] at hg2)); (first | (exfalso; assumption) | ((with_reducible refine' Wl.out ?_; apply k_no hgW)) | ((with_reducible refine' Wl.out ?_; apply kg_load hS ⟨hgW⟩); (· exact .mk))); clear hgW))
      | (go_at_call 49; refine (vsame_c m _ hS.inw _ _ _ _ A0.out A1.out).mono ?_; rintro e' w7 ⟨_, m7, rfl, rfl, hk⟩; replace hS := hS.grow (grownBy_of_below hk.below); clear hk; rw [← e2.out]))
    go_ret
    exact ⟨_, m, rfl, rfl, hS.done⟩
  · have e2 : Hid (R = false) := by
      show _ = _
      rw [hR]
      exact decide_eq_false fun h => e1 (by rw [h])
    clear hR
    go_enter Tryz.func48, Tryz.ntmps48
    go_wp2_with (first
    | ((with_reducible refine' Wl.out ?_; apply k_box (ty := 50) (y := (.tmp 0)) hS); (· exact .mk); clear hS; intro w2 b2 hS)
    | ((with_reducible refine' Wl.out ?_; apply k_box hS); (· exact .mk); clear hS; intro _ _ hS)
    | ((with_reducible refine' Wl.out ?_; apply k_load hS); (· exact .mk))
    | go_skip
    | ((with_reducible refine' Wl.out ?_; apply kg_load hS); iterate 2 (· exact .mk))
    | ((with_reducible refine' Wl.out ?_; refine' wg_case ?_ ?_) <;> (intro hgW; (try (have hg2 := hgW; simp [go_sem] at hg2)); (first | (exfalso; assumption) | ((with_reducible refine' Wl.out ?_; apply k_no hgW)) | ((with_reducible refine' Wl.out ?_; apply kg_load hS ⟨hgW⟩); (· exact .mk))); clear hgW)))
    go_ret
    exact ⟨_, m, rfl, by rw [e2.out]; rfl, hS.done⟩
end Go.Proofs.YtnbhhdncbajkgaaGreatDoor
/- model.Do as the laws ask it; model.Same; the reference's Few. -/
namespace Go.Proofs.YtnbhhdncbajkgaaGreatDoor
set_option linter.unusedVariables false
set_option linter.unusedSimpArgs false
open Go.RowKit Go.Shelf
theorem do_w (m : Mem) (w : World) (hm : m.In w) (hG : ShAt m) (q : Option Addr) (c : Nat) (M : Md) (h : itL.list.rd m [.slice q M.l.length c] M.l) (kind id kk seed : Int) (v : List Int) (qv : Option Addr) (cv : Nat) (hv : vecL.rd m [.slice qv v.length cv] v) (hsd : seed ≤ 9223372036854775807) (hid : InK .i64 id) (hk : kind ≤ 4) :
    Calls Tryz.prog 9 #[.agg #[.int .i64 M.cap, .int .i64 M.dim, .slice q M.l.length c], .agg #[.int .i64 kind, .int .i64 id, .int .i64 kk, .int .i64 seed, .slice qv v.length cv]] w (Ret w m (DoQ M ⟨kind, id, kk, seed, v⟩)) := by
  by_cases hok : okM M ∧ okA ⟨kind, id, kk, seed, v⟩ M.dim M.cap
  · have h1 : 1 ≤ kind := hok.2.2.1.1
    by_cases hp : kind = 1 ∨ kind = 2
    · exact do_putc m w hm hG q c M h kind id kk seed v qv cv hv hsd hid hok.1 hok.2 hp
    · cases hg : getM M.l id with
      | none => exact do_miss m w hm hG q c M h kind id kk seed v qv cv hv hsd hok.1 hok.2 (by omega) hg
      | some u =>
        by_cases h3 : kind = 3
        · exact do_delc m w hm hG q c M h kind id kk seed v qv cv hv hsd hok.1 hok.2 h3 u hg
        · exact do_getc m w hm hG q c M h kind id kk seed v qv cv hv hsd hok.1 hok.2 (by omega) u hg
  · exact do_bad m w hm hG q c M h kind id kk seed v qv cv hv hsd hok
set_option maxRecDepth 100000 in
set_option maxHeartbeats 4000000 in
theorem iteq_c (m : Mem) (w : World) (hm : m.In w) (p q : Option Addr) (c d : Nat) (a b : List It) (ha : itL.list.rd m [.slice p a.length c] a) (hb : itL.list.rd m [.slice q b.length d] b) :
    Calls Tryz.prog 50 #[.slice p a.length c, .slice q b.length d, .func (.func 48) #[] #[]] w (Ret w m fun v _ => v = .bool (decide (a = b))) := by
  have hS := St.start hm
  obtain ⟨_, _, e1, _, a2, _, ra⟩ := Lay.list_open ha
  obtain ⟨_, _, e2, _, _, _, rb⟩ := Lay.list_open hb
  cases e1
  cases e2
  have HA := Lib.hid ra
  have HB := Lib.hid rb
  have hla : a.length ≤ 9223372036854775807 := by simp only [maxLen] at a2; omega
  clear ha hb ra rb a2
  obtain ⟨R, hR⟩ : ∃ R, R = decide (a = b) := ⟨_, rfl⟩
  have HRR := Lib.hid hR
  rw [← hR]
  clear hR
  by_cases hl : a.length = b.length
  · have hl2 : ((a.length : Int) != b.length) = false := by simp [hl]
    have HLn := Lib.hid hl
    clear hl
    go_enter Tryz.func50, Tryz.ntmps50
    go_wp2_with (first
    | ((with_reducible refine' Wl.out ?_; apply k_alloc hS); (· exact .mk); clear hS; intro _ _ hS)
    | ((with_reducible refine' Wl.out ?_; apply k_loads hS); (· exact .mk))
    | ((with_reducible refine' Wl.out ?_; apply k_stores hS); (· exact .mk); clear hS; intro ws hS))
    go_loopw [17] (fun i wr => ∃ k : Nat, k ≤ a.length ∧ i = .int .i64 k ∧ Hid (a.take k = b.take k) ∧ St [] w m wr [] m) (fun i _ => a.length - (intOf i).toNat)
    case atStart => exact ⟨0, Nat.zero_le _, rfl, by simp [Hid], hS⟩
    case round =>
      clear hS
      obtain ⟨k, hk, rfl, hP, hS⟩ := hrel
      by_cases hlt : k < a.length
      · have hlt' : k < b.length := by have := HLn.out; omega
        obtain ⟨b1, o1, q1, c1, rfl, hcx, _, hv1⟩ := HA.out.itemAt k hlt
        obtain ⟨b2, o2, q2, c2, rfl, hcy, _, hv2⟩ := HB.out.itemAt k hlt'
        have hka : (k : Int) < a.length := by omega
        have hkb : (k : Int) < b.length := by omega
        have ea : a.getD k itz = a[k] := by simp [List.getD, hlt]
        have eb : b.getD k itz = b[k] := by simp [List.getD, hlt']
        have hN : a.getD k itz = b.getD k itz → Hid (a.take (k + 1) = b.take (k + 1)) := fun e => by
          show _ = _
          rw [List.take_succ_eq_append_getElem hlt, List.take_succ_eq_append_getElem hlt', hP.out, ← ea, ← eb, e]
        have hM : a.getD k itz ≠ b.getD k itz → Hid (R = false) := fun e => by show _ = _; rw [HRR.out]; exact decide_eq_false fun h => e (by rw [h])
        have V1 := Lib.hid hv1
        have V2 := Lib.hid hv2
        clear hP hv1 hv2 ea eb
        generalize a.getD k itz = x at *
        generalize b.getD k itz = y at *
        by_cases e1 : x = y
        · have HN := hN e1
          have HT : Hid (decide (x = y) = true) := decide_eq_true e1
          clear e1 hN hM
          go_wp2_with (first
    | ((with_reducible refine' Wl.out ?_; apply k_alloc hS); (· exact .mk); clear hS; intro _ _ hS)
    | ((with_reducible refine' Wl.out ?_; apply k_loads hS); (· exact .mk))
    | ((with_reducible refine' Wl.out ?_; apply k_stores hS); (· exact .mk); clear hS; intro ws hS)
            | (go_at_call 48; refine (itsame_c m _ hS.inw x y _ _ _ _ V1.out V2.out).mono ?_; rintro e' w29 ⟨_, m29, rfl, rfl, hk2⟩; replace hS := hS.grow (grownBy_of_below hk2.below); clear hk2; rw [HT.out]))
          go_roundw
          case rel => exact ⟨k + 1, hlt, by go_num, HN, hS.done⟩
          case measure => simp [intOf]; omega
        · have HM := hM e1
          have HT : Hid (decide (x = y) = false) := decide_eq_false e1
          clear e1 hN hM
          go_wp2_with (first
    | ((with_reducible refine' Wl.out ?_; apply k_alloc hS); (· exact .mk); clear hS; intro _ _ hS)
    | ((with_reducible refine' Wl.out ?_; apply k_loads hS); (· exact .mk))
    | ((with_reducible refine' Wl.out ?_; apply k_stores hS); (· exact .mk); clear hS; intro ws hS)
            | (go_at_call 48; refine (itsame_c m _ hS.inw x y _ _ _ _ V1.out V2.out).mono ?_; rintro e' w29 ⟨_, m29, rfl, rfl, hk2⟩; replace hS := hS.grow (grownBy_of_below hk2.below); clear hk2; rw [HT.out]))
          go_ret
          exact ⟨_, m, rfl, by rw [HM.out]; rfl, hS.done⟩
      · obtain rfl : k = a.length := by omega
        have HT : Hid (R = true) := by
          have := hP.out
          rw [List.take_length, HLn.out, List.take_length] at this
          show _ = _
          rw [HRR.out]; exact decide_eq_true this
        go_wp2_with (first
    | ((with_reducible refine' Wl.out ?_; apply k_alloc hS); (· exact .mk); clear hS; intro _ _ hS)
    | ((with_reducible refine' Wl.out ?_; apply k_loads hS); (· exact .mk))
    | ((with_reducible refine' Wl.out ?_; apply k_stores hS); (· exact .mk); clear hS; intro ws hS))
        go_ret
        exact ⟨_, m, rfl, by rw [HT.out]; rfl, hS.done⟩
  · have hne : Hid (R = false) := by show _ = _; rw [HRR.out]; exact decide_eq_false fun e => hl (by rw [e])
    have hl2 : ((a.length : Int) != b.length) = true := by simp; omega
    clear hl
    go_enter Tryz.func50, Tryz.ntmps50
    go_wp2_with (first
    | ((with_reducible refine' Wl.out ?_; apply k_alloc hS); (· exact .mk); clear hS; intro _ _ hS)
    | ((with_reducible refine' Wl.out ?_; apply k_loads hS); (· exact .mk))
    | ((with_reducible refine' Wl.out ?_; apply k_stores hS); (· exact .mk); clear hS; intro ws hS))
    go_ret
    exact ⟨_, m, rfl, by rw [hne.out]; rfl, hS.done⟩
set_option maxRecDepth 100000 in
set_option maxHeartbeats 4000000 in
theorem msame_c (m : Mem) (w : World) (hm : m.In w) (p q : Option Addr) (c d : Nat) (A B : Md) (ha : itL.list.rd m [.slice p A.l.length c] A.l) (hb : itL.list.rd m [.slice q B.l.length d] B.l) (hAB : A = B) :
    Calls Tryz.prog 19 #[.agg #[.int .i64 A.cap, .int .i64 A.dim, .slice p A.l.length c], .agg #[.int .i64 B.cap, .int .i64 B.dim, .slice q B.l.length d]] w (Ret w m fun v _ => v = .bool true) := by
  have hS := St.start hm
  have A0 := Lib.hid ha
  have A1 := Lib.hid hb
  have HE : Hid (decide (A.l = B.l) = true) := decide_eq_true (by rw [hAB])
  have h1 : (A.cap == B.cap) = true := by rw [hAB]; simp
  have h2 : (A.dim == B.dim) = true := by rw [hAB]; simp
  clear ha hb hAB
  go_enter Tryz.func19, Tryz.ntmps19
  go_wp2_with (first
    | ((with_reducible refine' Wl.out ?_; apply k_box (ty := 24) (y := (.tmp 0)) hS); (· exact .mk); clear hS; intro w2 b2 hS)
    | ((with_reducible refine' Wl.out ?_; apply k_box hS); (· exact .mk); clear hS; intro _ _ hS)
    | ((with_reducible refine' Wl.out ?_; apply k_load hS); (· exact .mk))
    | go_skip
    | ((with_reducible refine' Wl.out ?_; apply kg_load hS); iterate 2 (· exact .mk))
    | ((with_reducible refine' Wl.out ?_; refine' wg_case ?_ ?_) <;> (intro hgW; (try (have hg2 := hgW; simp [go_sem] at hg2)); (first | (exfalso; assumption) | ((with_reducible refine' Wl.out ?_; apply k_no hgW)) | ((with_reducible refine' Wl.out ?_; apply kg_load hS ⟨hgW⟩); (· exact .mk))); clear hgW))
    | (go_at_call 50; refine (iteq_c m _ hS.inw _ _ _ _ _ _ A0.out A1.out).mono ?_; rintro e' w24 ⟨_, m24, rfl, rfl, hk2⟩; replace hS := hS.grow (grownBy_of_below hk2.below); clear hk2; rw [HE.out]))
  go_ret
  exact ⟨_, m, rfl, rfl, hS.done⟩
set_option maxRecDepth 100000 in
set_option maxHeartbeats 4000000 in
theorem mfew_c (m : Mem) (w : World) (hm : m.In w) (q : Option Addr) (c : Nat) (M : Md) (h : itL.list.rd m [.slice q M.l.length c] M.l) :
    Calls Tryz.prog 6 #[.agg #[.int .i64 M.cap, .int .i64 M.dim, .slice q M.l.length c]] w (Ret w m fun v _ => ∃ B, v = .bool B) := by
  have hS := St.start hm
  obtain ⟨_, _, e, _, m2, _, r⟩ := Lay.list_open h
  cases e
  have HR := Lib.hid r
  have hml : M.l.length ≤ 9223372036854775807 := by simp only [maxLen] at m2; omega
  clear h r m2
  go_enter Tryz.func6, Tryz.ntmps6
  go_wp2_with (first
    | ((with_reducible refine' Wl.out ?_; apply k_box (ty := 24) (y := (.tmp 0)) hS); (· exact .mk); clear hS; intro w1 b1 hS)
    | ((with_reducible refine' Wl.out ?_; apply k_alloc (ty := 50) (dst := some 4) hS); (· exact .mk); clear hS; intro w4 b4 hS)
    | ((with_reducible refine' Wl.out ?_; apply k_load hS); (· exact .mk))
    | ((with_reducible refine' Wl.out ?_; apply k_loads hS); (· exact .mk))
    | ((with_reducible refine' Wl.out ?_; apply k_stores hS); (· exact .mk); clear hS; intro ws hS))
  go_loopw [8] (fun vi wr => ∃ k : Nat, k ≤ M.l.length ∧ vi = .int .i64 k ∧ St [] w m wr [.box b1 [.int .i64 M.cap, .int .i64 M.dim, .slice q M.l.length c]] m) (fun vi _ => M.l.length - (intOf vi).toNat)
  case atStart => exact ⟨0, Nat.zero_le _, rfl, hS⟩
  case round =>
    clear hS
    obtain ⟨k, hk, rfl, hS⟩ := hrel
    by_cases hlt : k < M.l.length
    · obtain ⟨b, o, qv, cv, rfl, hcx, _, _⟩ := HR.out.itemAt k hlt
      have hkz : (k : Int) < M.l.length := by omega
      generalize M.l.getD k itz = x at *
      by_cases hbig : (100 : Int) < x.v.length
      · go_wp2_with (first
    | ((with_reducible refine' Wl.out ?_; apply k_box (ty := 24) (y := (.tmp 0)) hS); (· exact .mk); clear hS; intro w1 b1 hS)
    | ((with_reducible refine' Wl.out ?_; apply k_alloc (ty := 50) (dst := some 4) hS); (· exact .mk); clear hS; intro w4 b4 hS)
    | ((with_reducible refine' Wl.out ?_; apply k_load hS); (· exact .mk))
    | ((with_reducible refine' Wl.out ?_; apply k_loads hS); (· exact .mk))
    | ((with_reducible refine' Wl.out ?_; apply k_stores hS); (· exact .mk); clear hS; intro ws hS))
        go_ret
        exact ⟨_, m, rfl, ⟨_, rfl⟩, hS.done⟩
      · go_wp2_with (first
    | ((with_reducible refine' Wl.out ?_; apply k_box (ty := 24) (y := (.tmp 0)) hS); (· exact .mk); clear hS; intro w1 b1 hS)
    | ((with_reducible refine' Wl.out ?_; apply k_alloc (ty := 50) (dst := some 4) hS); (· exact .mk); clear hS; intro w4 b4 hS)
    | ((with_reducible refine' Wl.out ?_; apply k_load hS); (· exact .mk))
    | ((with_reducible refine' Wl.out ?_; apply k_loads hS); (· exact .mk))
    | ((with_reducible refine' Wl.out ?_; apply k_stores hS); (· exact .mk); clear hS; intro ws hS))
        go_roundw
        case rel => exact ⟨k + 1, hlt, by go_num, hS.forget (x := .box b4 _) (by (repeat constructor))⟩
        case measure => simp [intOf]; omega
    · obtain rfl : k = M.l.length := by omega
      go_wp2_with (first
    | ((with_reducible refine' Wl.out ?_; apply k_box (ty := 24) (y := (.tmp 0)) hS); (· exact .mk); clear hS; intro w1 b1 hS)
    | ((with_reducible refine' Wl.out ?_; apply k_alloc (ty := 50) (dst := some 4) hS); (· exact .mk); clear hS; intro w4 b4 hS)
    | ((with_reducible refine' Wl.out ?_; apply k_load hS); (· exact .mk))
    | ((with_reducible refine' Wl.out ?_; apply k_loads hS); (· exact .mk))
    | ((with_reducible refine' Wl.out ?_; apply k_stores hS); (· exact .mk); clear hS; intro ws hS))
      all_goals
        go_ret
        exact ⟨_, m, rfl, ⟨_, rfl⟩, hS.done⟩
end Go.Proofs.YtnbhhdncbajkgaaGreatDoor
/- The law's live. -/
namespace Go.Proofs.YtnbhhdncbajkgaaGreatDoor
set_option linter.unusedVariables false
set_option linter.unusedSimpArgs false
open Go.RowKit Go.Shelf
theorem mvec1 {m : Mem} {b : Nat} {x : Int} (h : m ⟨b, 0, none⟩ = some (.int .i16 x)) (hx : InK .i16 x) : vecL.rd m [.slice (some ⟨b, 0, none⟩) 1 1] [x] :=
  ⟨_, 1, rfl, Nat.le_refl _, by simp [maxLen], by simp [Lay.int, kBytes], rowInt (by simpa using hx) fun _ => ⟨b, 0, rfl, fun i hi => by
    have : i = 0 := by simp at hi; omega
    subst this; exact h⟩⟩
def lm0 : Md := ⟨2, 1, []⟩
def lm1 : Md := ⟨2, 1, [⟨7, [1]⟩]⟩
theorem mfine1 : fineV [1] := ⟨by simp, by simp, by simp⟩
theorem ok0 : okM lm0 := ⟨by decide, by decide, by decide, List.Pairwise.nil, by simp [lm0]⟩
theorem ok1 : okM lm1 := ⟨by decide, by decide, by decide, List.pairwise_singleton _ _, fun x hx => by
  simp [lm1] at hx
  subst hx
  exact ⟨by decide, by decide, mfine1, rfl⟩⟩
theorem oka1 : okA ⟨1, 7, 0, 0, [1]⟩ 1 2 := ⟨by decide, by decide, by decide, by decide, by decide, by
  rw [if_pos (.inl rfl)]
  exact ⟨rfl, mfine1⟩⟩
theorem lv0 : doM lm0 ⟨1, 7, 0, 0, [1]⟩ = lm1 ∧ doP lm0 ⟨1, 7, 0, 0, [1]⟩ = rp0 ∧ doE lm0 ⟨1, 7, 0, 0, [1]⟩ = 0 := by
  obtain ⟨d1, d2, d3⟩ := doM_ok ok0 (a := ⟨1, 7, 0, 0, [1]⟩) oka1
  obtain ⟨e1, e2⟩ := do_put_eq (M := lm0) (a := ⟨1, 7, 0, 0, [1]⟩) (.inl rfl)
  rw [e2] at d1
  rw [e1] at d2
  exact ⟨d1.trans rfl, d2.trans rfl, d3⟩
theorem lv1' : doM lm1 ⟨1, 7, 0, 0, [1]⟩ = lm1 ∧ doP lm1 ⟨1, 7, 0, 0, [1]⟩ = { rp0 with e := 6 } ∧ doE lm1 ⟨1, 7, 0, 0, [1]⟩ = 0 := by
  obtain ⟨d1, d2, d3⟩ := doM_ok ok1 (a := ⟨1, 7, 0, 0, [1]⟩) oka1
  obtain ⟨e1, e2⟩ := do_put_eq (M := lm1) (a := ⟨1, 7, 0, 0, [1]⟩) (.inl rfl)
  rw [e2] at d1
  rw [e1] at d2
  exact ⟨d1.trans rfl, d2.trans rfl, d3⟩
set_option maxRecDepth 100000 in
set_option maxHeartbeats 4000000 in
theorem new21_c (m : Mem) (w : World) (hm : m.In w) :
    Calls Tryz.prog 11 #[.int .i64 2, .int .i64 1] w (Ret w m fun v _ => v = .tuple #[.agg #[.int .i64 2, .int .i64 1, .slice none 0 0], .int .i64 0]) := by
  have hS := St.start hm
  have hc : Hid (chkM lm0 = 0) := if_pos ok0
  go_enter Tryz.func11, Tryz.ntmps11
  go_wp2_with (first
    | ((with_reducible refine' Wl.out ?_; apply k_alloc hS); (· exact .mk); clear hS; intro _ _ hS)
    | ((with_reducible refine' Wl.out ?_; apply k_loads hS); (· exact .mk))
    | ((with_reducible refine' Wl.out ?_; apply k_stores hS); (· exact .mk); clear hS; intro ws hS)
    | (go_at_call 17; refine (mcheck_c m _ hS.inw none 0 lm0 (Lay.nil_rd _ _)).mono ?_; rintro e' wq ⟨_, mq, rfl, rfl, hk⟩; replace hS := hS.grow (grownBy_of_below hk.below); clear hk; rw [hc.out]))
  refine ret_cell_tmp (n := 3) Tryz.results11 rfl hS (by (repeat constructor)) (by rfl) rowT24 rfl ?_
  exact ⟨_, m, rfl, rfl, hS.done⟩
set_option maxRecDepth 100000 in
set_option maxHeartbeats 4000000 in
theorem live19_c (m : Mem) (w : World) (hm : m.In w) (hG : ShAt m) :
    Calls Tryz.prog 5 #[] w (Ret w m fun v _ => v = .bool true) := by
  have hS := St.start hm
  have HG := Lib.hid hG
  clear hG
  go_enter Tryz.func5, Tryz.ntmps5
  go_wp2_with (first
    | ((with_reducible refine' Wl.out ?_; apply k_alloc hS); (· exact .mk); clear hS; intro _ _ hS)
    | ((with_reducible refine' Wl.out ?_; apply k_load hS); (· exact .mk))
    | ((with_reducible refine' Wl.out ?_; apply k_loads hS); (· exact .mk))
    | go_skip
    | ((with_reducible refine' Wl.out ?_; apply kg_load hS); iterate 2 (· exact .mk))
    | ((with_reducible refine' Wl.out ?_; apply kg_loads hS); iterate 2 (· exact .mk))
    | ((with_reducible refine' Wl.out ?_; refine' wg_case ?_ ?_) <;> (intro hgW; (try (have hg2 := hgW; simp [go_sem] at hg2)); (first | (exfalso; assumption) | ((with_reducible refine' Wl.out ?_; apply k_no hgW)) | ((with_reducible refine' Wl.out ?_; apply kg_load hS ⟨hgW⟩); (· exact .mk)) | ((with_reducible refine' Wl.out ?_; apply kg_loads hS ⟨hgW⟩); (· exact .mk))); clear hgW))
    | ((with_reducible refine' Wl.out ?_; apply k_stores hS); (· exact .mk); clear hS; intro ws hS)
    | (go_at_call 11; refine (new21_c m _ hS.inw).mono ?_; rintro e' w10 ⟨_, m10, rfl, rfl, hk⟩; replace hS := hS.grow (grownBy_of_below hk.below); clear hk)
    | ((with_reducible refine' Wl.out ?_; apply wl_lit el_vec16 (cs := [.int .i16 1]) hS); (· decide); (· decide); (· kernel_rfl); clear hS; intro w13 b13 hS; obtain ⟨m13, hS13, hle13, hb13⟩ := hS.settleBox 0 rfl; replace hS := hS13; clear hS13; have RV := Lib.hid (mvec1 (hb13 0 _ rfl) ⟨by decide, by decide⟩); clear hle13 hb13)
    | (go_at_call 9; (fail_if_success (clear Mk18)); refine (do_w _ _ hS.inw (ShAt.mono hS.le HG.out) none 0 lm0 (Lay.nil_rd _ _) 1 7 0 0 [1] _ _ RV.out (by decide) (inK64 (by decide) (by decide)) (by decide)).mono ?_; rintro e' w18 ⟨_, m18, rfl, ⟨T18, P18, E18, q18, c18, qv18, cv18, qh18, ch18, HT18, HP18, HE18, rfl, R18, V18, H18⟩, hk⟩; replace hS := hS.call hk; replace RV := Lib.hid (Lay.mono _ hk.le RV.out); clear hk; obtain rfl := HT18.out.trans lv0.1; obtain rfl := HP18.out.trans lv0.2.1; obtain rfl := HE18.out.trans lv0.2.2; have Mk18 := True.intro)
    | (go_at_call 9; (have Mkx := Mk18; clear Mkx); refine (do_w _ _ hS.inw (ShAt.mono hS.le HG.out) _ _ lm1 R18.out 1 7 0 0 [1] _ _ RV.out (by decide) (inK64 (by decide) (by decide)) (by decide)).mono ?_; rintro e' w25 ⟨_, m25, rfl, ⟨T25, P25, E25, q25, c25, qv25, cv25, qh25, ch25, HT25, HP25, HE25, rfl, R25, V25, H25⟩, hk⟩; replace hS := hS.call hk; clear hk; obtain rfl := HT25.out.trans lv1'.1; obtain rfl := HP25.out.trans lv1'.2.1; obtain rfl := HE25.out.trans lv1'.2.2))
  go_ret
  exact ⟨_, _, rfl, rfl, hS.done⟩
end Go.Proofs.YtnbhhdncbajkgaaGreatDoor
