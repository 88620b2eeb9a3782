/- The walk of BestOrder. -/
import Derived.Test.YtlkdjmpkapeppaaG3
namespace Go.Proofs.Ytlkdjmpkapeppaa
set_option linter.unusedVariables false
set_option linter.unusedSimpArgs false
open Go.RowKit Go.Shelf
set_option maxRecDepth 100000 in
set_option maxHeartbeats 8000000 in
theorem order_walk (w : World) (da ia db ib dc ic : Int) (same : Bool) (e : (¬ da = db) ∧ same = false ∨ (da = db ∧ ¬ ia = ib) ∧ same = false ∨ (da = db ∧ ia = ib) ∧ same = true) (P1 P2 P3 P4 : Bool) (h0 : decide ((⟨da, ia⟩ : Hit).lt ⟨da, ia⟩) = false) (h1 : decide ((⟨da, ia⟩ : Hit).lt ⟨db, ib⟩) = P1) (h2 : decide ((⟨db, ib⟩ : Hit).lt ⟨da, ia⟩) = P2) (h3 : decide ((⟨db, ib⟩ : Hit).lt ⟨dc, ic⟩) = P3) (h4 : decide ((⟨da, ia⟩ : Hit).lt ⟨dc, ic⟩) = P4)
    (k1 : (P1 && P2) = false) (k2 : (P1 || P2 || same) = true) (k3 : (!P1 || !P3 || P4) = true) :
    Calls Try.prog 5 #[.agg #[.int .i64 da, .int .i64 ia], .agg #[.int .i64 db, .int .i64 ib], .agg #[.int .i64 dc, .int .i64 ic]] w fun e w' => e = .returned (.bool true) ∧ Below w.heap.size w w' := by
  have hS := St.start (World.mem_in w)
  have H0 := Lib.hid h0
  rcases e with ⟨e1, rfl⟩ | ⟨⟨rfl, e2⟩, rfl⟩ | ⟨⟨rfl, rfl⟩, rfl⟩
  all_goals
    cases P1 <;> cases P2 <;> cases P3 <;> cases P4 <;> (first | (exfalso; revert k1 k2 k3; decide) | skip)
  all_goals
    clear k1 k2 k3 h0
    have H1 := Lib.hid h1
    have H2 := Lib.hid h2
    have H3 := Lib.hid h3
    have H4 := Lib.hid h4
    clear h1 h2 h3 h4
    go_enter Try.func5, Try.ntmps5
    go_wp2_with (first 
    | ((with_reducible refine' Wl.out ?_; apply k_box hS); (· exact .mk); clear hS; intro _ _ hS)
    | ((with_reducible refine' Wl.out ?_; apply k_loads hS); (· exact .mk))
    | go_skip
    | ((with_reducible refine' Wl.out ?_; apply kg_loads hS); iterate 2 (· exact .mk))
    | ((with_reducible refine' Wl.out ?_; refine' wg_case ?_ ?_) <;> (intro hgW; (try (have hg2 := hgW; simp [go_sem] at hg2)); (first | (exfalso; assumption) | ((with_reducible refine' Wl.out ?_; apply k_no hgW)) | ((with_reducible refine' Wl.out ?_; apply kg_loads hS ⟨hgW⟩); (· exact .mk))); clear hgW))
      | (go_at_call 11; refine (live16_c _ _ hS.inw).mono ?_; rintro e' w8 ⟨_, m8, rfl, rfl, hk⟩; replace hS := hS.call hk; clear hk)
      | (go_at_call 16; refine (less_v _ _ hS.inw _ _ _ _).mono ?_; rintro e' w13 ⟨_, m13, rfl, hv, hk⟩; replace hS := hS.call hk; clear hk; simp only [H0.out, H1.out, H2.out, H3.out, H4.out] at hv; subst hv))
    (first | (go_ret; exact ⟨rfl, hS.below⟩) | (go_ret; refine ⟨?_, hS.below⟩; simp; done))
theorem walkBestOrder (w : World) (va : Value) (a : Hit) (ha : va = .agg #[.int .i64 a.dist, .int .i64 a.id] ∧ InK .i64 a.dist ∧ InK .i64 a.id) (vb : Value) (b : Hit) (hb : vb = .agg #[.int .i64 b.dist, .int .i64 b.id] ∧ InK .i64 b.dist ∧ InK .i64 b.id) (vc : Value) (c : Hit) (hc : vc = .agg #[.int .i64 c.dist, .int .i64 c.id] ∧ InK .i64 c.dist ∧ InK .i64 c.id) :
    Calls Try.prog 5 #[va, vb, vc] w fun e w' => e = .returned (.bool true) ∧ Below w.heap.size w w' := by
  obtain ⟨rfl, _⟩ := ha
  obtain ⟨rfl, _⟩ := hb
  obtain ⟨rfl, _⟩ := hc
  refine order_walk w a.dist a.id b.dist b.id c.dist c.id (decide (a = b)) ?_ _ _ _ _ (decide_eq_false (Hit.irrefl a)) rfl rfl rfl rfl ?_ ?_ ?_
  · by_cases h1 : a.dist = b.dist
    · by_cases h2 : a.id = b.id
      · exact .inr (.inr ⟨⟨h1, h2⟩, decide_eq_true (Hit.ext' h1 h2)⟩)
      · exact .inr (.inl ⟨⟨h1, h2⟩, decide_eq_false fun e => h2 (by rw [e])⟩)
    · exact .inl ⟨h1, decide_eq_false fun e => h1 (by rw [e])⟩
  · by_cases h : a.lt b
    · rw [decide_eq_false (Hit.asymm h)]; simp
    · rw [decide_eq_false h]; simp
  · by_cases h : a.lt b
    · rw [decide_eq_true h]; simp
    · by_cases h' : b.lt a
      · rw [decide_eq_true h']; simp
      · rw [decide_eq_true (Hit.tri h h')]; simp
  · by_cases h : a.lt b
    · by_cases h' : b.lt c
      · rw [decide_eq_true (Hit.trans h h')]; simp
      · rw [decide_eq_false h']; simp
    · rw [decide_eq_false h]; simp
end Go.Proofs.Ytlkdjmpkapeppaa
