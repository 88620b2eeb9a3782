/- Contracts and plain laws that the laws' proofs use, laid together (part 4). -/
import Derived.Test.YtnmgiiaejpaeeaaG3
import Derived.WalkMore
import Derived.ScopeJumps
import Derived.Deep.Cut
/- A journal's part: contracts of piece.seal, and of the reference's part. -/
namespace Go.Proofs.Ytnmgiiaejpaeeaa
set_option linter.unusedVariables false
set_option linter.unusedSimpArgs false
open Go.RowKit Go.Shelf
def stampOf (g : Lg) : Int := g.gen * 1048576 + 524288 + g.n
def partPay (i parts : Nat) (own : List Int) : List Int := [(i : Int) % 256, (i : Int) / 256, (parts : Int) % 256, (parts : Int) / 256, (own.length : Int)] ++ own
def partB (g : Lg) (i parts : Nat) (own : List Int) : List Int := sealB (stampOf g) (partPay i parts own)
theorem pair_stamp {g : Lg} (h : lgOK g) : pairE g.gen (524288 + g.n) = 0 ∧ pairV g.gen (524288 + g.n) = stampOf g := by
  obtain ⟨_, _, _, _, h5, h6, _, _, h9, h10⟩ := h
  have hp : pairOK g.gen (524288 + g.n) := by unfold pairOK; omega
  exact ⟨if_pos hp, by unfold pairV stampOf; rw [if_pos hp]; omega⟩
theorem part_seal {g : Lg} (h : lgOK g) {i parts : Nat} {own : List Int} (hl : own.length ≤ 11) : sealE (stampOf g) (partPay i parts own).length = 0 ∧ sealR (stampOf g) (partPay i parts own) = partB g i parts own := by
  obtain ⟨_, _, _, _, h5, h6, _, _, h9, h10⟩ := h
  have he : sealE (stampOf g) (partPay i parts own).length = 0 := by
    unfold sealE stampOf partPay
    rw [if_neg (by omega), if_neg (by simp; omega)]
  exact ⟨he, by unfold sealR; rw [if_pos he]; rfl⟩
set_option maxRecDepth 100000 in
set_option maxHeartbeats 4000000 in
theorem pseal_c (m : Mem) (w : World) (hm : m.In w) (i parts : Nat) (vo : Value) (own : List Int) (ho : bytesL.rd m [vo] own) (b s g p n : Int) (hg : lgOK ⟨b, s, g, p, n⟩) (hl : own.length ≤ 11) (hi : i < 65536) (hp : parts < 65536) :
    Calls Try.prog 88 #[.agg ([.int .i64 i, .int .i64 parts, vo] : List Value).toArray, .agg ([.int .i64 b, .int .i64 s, .int .i64 g, .int .i64 p, .int .i64 n] : List Value).toArray] w (RetBE w m (partB ⟨b, s, g, p, n⟩ i parts own) 0) := by
  have A0 := Lib.hid ho
  obtain ⟨po, co, rfl, o1, o2, o3, o4⟩ := Lay.list_open ho
  have hS := St.start hm
  have HG := Lib.hid hg
  obtain ⟨PE, PV⟩ := pair_stamp hg
  have HPE := Lib.hid PE
  have HPV := Lib.hid PV
  obtain ⟨_, _, _, _, g5, g6, _, _, g9, g10⟩ := hg
  simp only at g5 g6 g9 g10
  clear ho o1 o2 o3 o4 PE PV
  go_enter Try.func88, Try.ntmps88
  go_wp2_with (first
    | ((with_reducible refine' Wl.out ?_; apply wl_box (ty := 118) (y := (.tmp 0)) hS); (· (first | (go_simp; done) | (go_simp; with_reducible rfl))); (· exact rfl); clear hS; intro w2 b2 hS)
    | ((with_reducible refine' Wl.out ?_; apply wl_box (ty := 70) (y := (.tmp 1)) hS); (· (first | (go_simp; done) | (go_simp; with_reducible rfl))); (· exact rfl); clear hS; intro w3 b3 hS)
    | ((with_reducible refine' Wl.out ?_; apply wl_load hS); (· (first | exact Try.underlying2 | exact Try.underlying3 | exact Try.underlying22)); (· exact rfl); (· exact rfl); (· (first | (apply Find.box; (· (repeat constructor)); rfl) | exact Find.mem (by assumption) | (apply Find.row; (· (repeat constructor)); assumption))))
    | ((with_reducible refine' Wl.out ?_; apply wg_load hS); (· (first | exact Try.underlying2 | exact Try.underlying3 | exact Try.underlying22)); (· exact rfl); (· (first | rfl | (go_simp; done))); (· exact rfl); (· (first | (apply Find.box; (· (repeat constructor)); rfl) | exact Find.mem (by assumption) | (apply Find.row; (· (repeat constructor)); assumption))))
    | (go_at_call 24; (fail_if_success (clear Mk15)); refine (letII (pair_c _ _ hS.inw _ _)).mono ?_; rintro e' w15 ⟨_, m15, rfl, ⟨N15, E15, HN15, HE15, rfl⟩, hk⟩; replace hS := hS.call hk; (try replace A0 := Lib.hid (Lay.mono _ hk.le A0.out)); (try replace R45 := Lib.hid (Lay.mono _ hk.le R45.out)); clear hk; replace HE15 := Lib.hid (HE15.out.trans HPE.out); obtain rfl := HE15.out; replace HN15 := Lib.hid (HN15.out.trans HPV.out); have Mk15 := True.intro)
    | ((with_reducible refine' Wl.out ?_; apply wl_litR el_u8 hS (cs := [.int .u8 ((i : Int) % 256), .int .u8 ((i : Int) / 256), .int .u8 ((parts : Int) % 256), .int .u8 ((parts : Int) / 256), .int .u8 (own.length : Int)])); (· decide); (· decide); (· kernel_rfl); (· rfl); (· decide); clear hS; intro w39 b39 hS)
    | ((with_reducible refine' Wl.out ?_; apply wl_append u8L el_u8 hS (by decide)); (· exact rfl); (· (repeat constructor)); (· exact rfl); (· exact A0.out); (· simp [Lay.int, kBytes]; omega); clear hS; intro w44 q44 c44 news44 hc44 hS; obtain ⟨rfl, _⟩ := cellsInt hc44; clear hc44))
  have hpl : (partPay i parts own).length = 5 + own.length := by simp [partPay]; omega
  have hpk : ∀ x ∈ partPay i parts own, InK .u8 x := fun x hx => by
    unfold partPay at hx
    rcases List.mem_append.1 hx with hx | hx
    · simp only [List.mem_cons, List.mem_nil_iff, or_false] at hx
      simp only [InK, IntKind.min, IntKind.max, IntKind.signed, IntKind.bits]
      rcases hx with rfl | rfl | rfl | rfl | rfl <;> simp <;> omega
    · obtain ⟨_, _, _, _, _, _, h4⟩ := A0.out
      exact h4.inK x hx
  obtain ⟨m7, hS7, hle7, hrd⟩ := hS.settleRow' (L := u8L) (xs := partPay i parts own) 0 hpl rfl (by have := cells_of_ints (m := m15) hpk; simpa [partPay] using this) (by rw [hpl]; simp [Lay.int, kBytes]; omega)
  simp only [List.eraseIdx_cons_zero] at hS7
  rw [← hpl] at hrd
  rw [← hpl]
  clear hS
  obtain ⟨q1, q2⟩ := part_seal HG.out (i := i) (parts := parts) hl
  have Q1 := Lib.hid q1
  have Q2 := Lib.hid q2
  have HN := HN15.out
  refine (seal_c _ _ hS7.inw _ _ _ hrd).mono ?_
  rintro e' w45 ⟨v45, m45, rfl, ⟨vb, rfl, hr45⟩, hk⟩
  have hS := hS7.call hk
  rw [HN, Q2.out] at hr45
  rw [HN, Q1.out]
  have HR := Lib.hid hr45
  clear hk hS7 hle7 hrd hpl hpk q1 q2 Q1 Q2 hr45 HN HN15
  go_wp2_with (first
    | ((with_reducible refine' Wl.out ?_; apply wl_box (ty := 118) (y := (.tmp 0)) hS); (· (first | (go_simp; done) | (go_simp; with_reducible rfl))); (· exact rfl); clear hS; intro w2 b2 hS)
    | ((with_reducible refine' Wl.out ?_; apply wl_box (ty := 70) (y := (.tmp 1)) hS); (· (first | (go_simp; done) | (go_simp; with_reducible rfl))); (· exact rfl); clear hS; intro w3 b3 hS)
    | ((with_reducible refine' Wl.out ?_; apply wl_load hS); (· (first | exact Try.underlying2 | exact Try.underlying3 | exact Try.underlying22)); (· exact rfl); (· exact rfl); (· (first | (apply Find.box; (· (repeat constructor)); rfl) | exact Find.mem (by assumption) | (apply Find.row; (· (repeat constructor)); assumption))))
    | ((with_reducible refine' Wl.out ?_; apply wg_load hS); (· (first | exact Try.underlying2 | exact Try.underlying3 | exact Try.underlying22)); (· exact rfl); (· (first | rfl | (go_simp; done))); (· exact rfl); (· (first | (apply Find.box; (· (repeat constructor)); rfl) | exact Find.mem (by assumption) | (apply Find.row; (· (repeat constructor)); assumption)))))
  go_ret2
  exact ⟨_, _, rfl, ⟨_, rfl, HR.out⟩, hS.done⟩
end Go.Proofs.Ytnmgiiaejpaeeaa
/- A journal's part: contract of the reference's part. -/
namespace Go.Proofs.Ytnmgiiaejpaeeaa
set_option linter.unusedVariables false
set_option linter.unusedSimpArgs false
open Go.RowKit Go.Shelf
/-- A part of a text. -/
def chunkOf (text : List Int) (i : Nat) : List Int := (text.take (11 * i + 11)).drop (11 * i)
theorem chunk_len (text : List Int) (i : Nat) : (chunkOf text i).length = min 11 (text.length - 11 * i) := by simp [chunkOf]; omega
theorem chunk_min (text : List Int) (i : Nat) : (text.take (min (11 * i + 11) text.length)).drop (11 * i) = chunkOf text i := by
  unfold chunkOf
  by_cases h : 11 * i + 11 ≤ text.length
  · rw [Nat.min_eq_left h]
  · rw [Nat.min_eq_right (by omega), List.take_of_length_le (Nat.le_refl _), List.take_of_length_le (by omega)]
set_option maxRecDepth 100000 in
set_option maxHeartbeats 4000000 in
theorem rpart_c (m : Mem) (w : World) (hm : m.In w) (i parts : Nat) (vt : Value) (text : List Int) (ht : bytesL.rd m [vt] text) (b s g p n : Int) (hg : lgOK ⟨b, s, g, p, n⟩) (hl : text.length ≤ 65536) (hi : 11 * i < text.length) (hp : parts < 65536) :
    Calls Try.prog 90 #[.agg ([.int .i64 b, .int .i64 s, .int .i64 g, .int .i64 p, .int .i64 n] : List Value).toArray, vt, .int .i64 i, .int .i64 parts] w (Ret w m fun v m' => bytesL.rd m' [v] (partB ⟨b, s, g, p, n⟩ i parts (chunkOf text i))) := by
  obtain ⟨pt, ct, rfl, o1, o2, o3, o4⟩ := Lay.list_open ht
  obtain ⟨b0, o0, rfl, _⟩ := o4 (by omega)
  have hpart := rdL_part ht (11 * i) (min (11 * i + 11) text.length) (by omega) (by omega)
  rw [show (Lay.int .u8).n = 1 from rfl, Nat.mul_one, chunk_min] at hpart
  have hcl := chunk_len text i
  have hS := St.start hm
  have HG := Lib.hid hg
  obtain ⟨_, _, _, _, g5, g6, _, _, g9, g10⟩ := hg
  simp only at g5 g6 g9 g10
  simp only [maxLen] at o2
  obtain ⟨own, hown⟩ : ∃ own, own = chunkOf text i := ⟨_, rfl⟩
  rw [← hown] at hpart hcl ⊢
  obtain ⟨hi2, hh⟩ : ∃ k, k = min (11 * i + 11) text.length := ⟨_, rfl⟩
  have hle : hi2 - 11 * i = own.length := by omega
  rw [← hh] at hpart
  rw [hle] at hpart
  have A0 := Lib.hid hpart
  have hol : own.length ≤ 11 := by omega
  have y1 : ¬ ct = 11 * i := by omega
  have hmin : min (11 * (i : Int) + 11) (text.length : Int) = (hi2 : Int) := by omega
  have HOWN := Lib.hid hown
  have h1 : 11 * i ≤ hi2 := by omega
  have h2 : hi2 ≤ text.length := by omega
  clear ht o3 o4 hpart hcl hown hh
  go_enter Try.func90, Try.ntmps90
  go_wp2_with (first
    | ((with_reducible refine' Wl.out ?_; apply wl_box (ty := 70) (y := (.tmp 0)) hS); (· (first | (go_simp; done) | (go_simp; with_reducible rfl))); (· exact rfl); clear hS; intro w4 b4 hS)
    | ((with_reducible refine' Wl.out ?_; apply wl_load hS); (· (first | exact Try.underlying2)); (· exact rfl); (· exact rfl); (· (first | (apply Find.box; (· (repeat constructor)); rfl) | exact Find.mem (by assumption) | (apply Find.row; (· (repeat constructor)); assumption))))
    | ((with_reducible refine' Wl.out ?_; apply wg_load hS); (· (first | exact Try.underlying2)); (· exact rfl); (· (first | rfl | (go_simp; done))); (· exact rfl); (· (first | (apply Find.box; (· (repeat constructor)); rfl) | exact Find.mem (by assumption) | (apply Find.row; (· (repeat constructor)); assumption))))
    | ((with_reducible refine' Wl.out ?_; apply wl_litR el_u8 hS (cs := [.int .u8 ((i : Int) % 256), .int .u8 ((i : Int) / 256), .int .u8 ((parts : Int) % 256), .int .u8 ((parts : Int) / 256), .int .u8 (own.length : Int)])); (· decide); (· decide); (· kernel_rfl); (· rfl); (· decide); clear hS; intro w39 b39 hS)
    | ((with_reducible refine' Wl.out ?_; apply wl_append u8L el_u8 hS (by decide)); (· exact rfl); (· (repeat constructor)); (· exact rfl); (· exact A0.out); (· simp [Lay.int, kBytes]; omega); clear hS; intro w44 q44 c44 news44 hc44 hS; obtain ⟨rfl, _⟩ := cellsInt hc44; clear hc44))
  have hpl : (partPay i parts own).length = 5 + own.length := by simp [partPay]; omega
  have hpk : ∀ x ∈ partPay i parts own, InK .u8 x := fun x hx => by
    unfold partPay at hx
    rcases List.mem_append.1 hx with hx | hx
    · simp only [List.mem_cons, List.mem_nil_iff, or_false] at hx
      simp only [InK, IntKind.min, IntKind.max, IntKind.signed, IntKind.bits]
      rcases hx with rfl | rfl | rfl | rfl | rfl <;> simp <;> omega
    · obtain ⟨_, _, _, _, _, _, h4⟩ := A0.out
      exact h4.inK x hx
  obtain ⟨m7, hS7, hle7, hrd⟩ := hS.settleRow' (L := u8L) (xs := partPay i parts own) 0 hpl rfl (by have := cells_of_ints (m := m) hpk; simpa [partPay] using this) (by rw [hpl]; simp [Lay.int, kBytes]; omega)
  simp only [List.eraseIdx_cons_zero] at hS7
  rw [← hpl] at hrd
  rw [← hpl]
  clear hS
  obtain ⟨q1, q2⟩ := part_seal HG.out (i := i) (parts := parts) hol
  have Q1 := Lib.hid q1
  have Q2 := Lib.hid q2
  refine (rseal_c _ _ hS7.inw _ _ _ hrd).mono ?_
  rintro e' w45 ⟨v45, m45, rfl, ⟨vb, rfl, hr45⟩, hk⟩
  have hS := hS7.call hk
  rw [show g * 1048576 + 524288 + n = stampOf ⟨b, s, g, p, n⟩ from rfl, Q2.out] at hr45
  have HR := Lib.hid hr45
  clear hk hS7 hle7 hrd hpl hpk q1 q2 Q1 Q2 hr45
  go_wp2_with (first
    | ((with_reducible refine' Wl.out ?_; apply wl_box (ty := 70) (y := (.tmp 0)) hS); (· (first | (go_simp; done) | (go_simp; with_reducible rfl))); (· exact rfl); clear hS; intro w4 b4 hS)
    | ((with_reducible refine' Wl.out ?_; apply wl_load hS); (· (first | exact Try.underlying2)); (· exact rfl); (· exact rfl); (· (first | (apply Find.box; (· (repeat constructor)); rfl) | exact Find.mem (by assumption) | (apply Find.row; (· (repeat constructor)); assumption))))
    | ((with_reducible refine' Wl.out ?_; apply wg_load hS); (· (first | exact Try.underlying2)); (· exact rfl); (· (first | rfl | (go_simp; done))); (· exact rfl); (· (first | (apply Find.box; (· (repeat constructor)); rfl) | exact Find.mem (by assumption) | (apply Find.row; (· (repeat constructor)); assumption)))))
  go_ret
  exact ⟨_, _, rfl, HR.out, hS.done⟩
/-- The part of no text. -/
theorem empty_part : chunkOf [] 0 = [] := rfl
set_option maxRecDepth 100000 in
set_option maxHeartbeats 4000000 in
theorem rpart_0 (m : Mem) (w : World) (hm : m.In w) (parts : Nat) (vt : Value) (text : List Int) (ht : bytesL.rd m [vt] text) (b s g p n : Int) (hg : lgOK ⟨b, s, g, p, n⟩) (hl : text = []) (hp : parts < 65536) :
    Calls Try.prog 90 #[.agg ([.int .i64 b, .int .i64 s, .int .i64 g, .int .i64 p, .int .i64 n] : List Value).toArray, vt, .int .i64 0, .int .i64 parts] w (Ret w m fun v m' => bytesL.rd m' [v] (partB ⟨b, s, g, p, n⟩ 0 parts [])) := by
  obtain ⟨pt, ct, rfl, o1, o2, o3, o4⟩ := Lay.list_open ht
  subst hl
  clear o4
  have hS := St.start hm
  have HG := Lib.hid hg
  obtain ⟨_, _, _, _, g5, g6, _, _, g9, g10⟩ := hg
  simp only at g5 g6 g9 g10
  simp only [maxLen] at o2
  clear ht o3 o1
  rw [show ([] : List Int).length = 0 from rfl]
  have HR0 : ∀ (m' : Mem) (q : Option Addr) (c : Nat), c ≤ maxLen → bytesL.rd m' [.slice q 0 c] [] := fun m' q c hc => ⟨q, c, rfl, Nat.zero_le _, hc, by simp, Row.nil _ _ _⟩
  have HR1 := Lib.hid HR0
  clear HR0
  have hm0 : min (11 : Int) 0 = 0 := by decide
  have hc0 : ct ≤ maxLen := by simp only [maxLen]; omega
  have hway : (pt = none ∧ ct = 0) ∨ (pt = none ∧ ct ≠ 0) ∨ ((∃ a, pt = some a) ∧ ct = 0) ∨ ((∃ a, pt = some a) ∧ ct ≠ 0) := by
    cases pt <;> by_cases h : ct = 0 <;> simp [h]
  rcases hway with ⟨rfl, rfl⟩ | ⟨rfl, y1⟩ | ⟨⟨pa, rfl⟩, rfl⟩ | ⟨⟨pa, rfl⟩, y1⟩
  all_goals
    go_enter Try.func90, Try.ntmps90
    go_wp2_with (first
    | ((with_reducible refine' Wl.out ?_; apply wl_box (ty := 70) (y := (.tmp 0)) hS); (· (first | (go_simp; done) | (go_simp; with_reducible rfl))); (· exact rfl); clear hS; intro w4 b4 hS)
    | ((with_reducible refine' Wl.out ?_; apply wl_load hS); (· (first | exact Try.underlying2)); (· exact rfl); (· exact rfl); (· (first | (apply Find.box; (· (repeat constructor)); rfl) | exact Find.mem (by assumption) | (apply Find.row; (· (repeat constructor)); assumption))))
    | ((with_reducible refine' Wl.out ?_; apply wg_load hS); (· (first | exact Try.underlying2)); (· exact rfl); (· (first | rfl | (go_simp; done))); (· exact rfl); (· (first | (apply Find.box; (· (repeat constructor)); rfl) | exact Find.mem (by assumption) | (apply Find.row; (· (repeat constructor)); assumption))))
      | ((with_reducible refine' Wl.out ?_; apply wl_litR el_u8 hS (cs := [.int .u8 0, .int .u8 0, .int .u8 ((parts : Int) % 256), .int .u8 ((parts : Int) / 256), .int .u8 0])); (· decide); (· decide); (· kernel_rfl); (· rfl); (· decide); clear hS; intro w39 b39 hS)
      | ((with_reducible refine' Wl.out ?_; apply wl_append (ys := []) u8L el_u8 hS (by decide)); (· exact rfl); (· (repeat constructor)); (· exact rfl); (· exact HR1.out _ _ _ (by first | decide | omega)); (· simp [Lay.int, kBytes]; done); clear hS; intro w44 q44 c44 news44 hc44 hS; obtain ⟨rfl, _⟩ := cellsInt hc44; clear hc44))
    have hpl : (partPay 0 parts []).length = 5 := by simp [partPay]
    have hpk : ∀ x ∈ partPay 0 parts [], InK .u8 x := fun x hx => by
      simp only [partPay, List.append_nil, List.mem_cons, List.mem_nil_iff, or_false] at hx
      simp only [InK, IntKind.min, IntKind.max, IntKind.signed, IntKind.bits]
      rcases hx with rfl | rfl | rfl | rfl | rfl <;> simp <;> omega
    obtain ⟨m7, hS7, hle7, hrd⟩ := hS.settleRow' (L := u8L) (xs := partPay 0 parts []) 0 hpl rfl (by have := cells_of_ints (m := m) hpk; simpa [partPay] using this) (by rw [hpl]; simp [Lay.int, kBytes])
    simp only [List.eraseIdx_cons_zero] at hS7
    have hrd2 : bytesL.rd m7 [.slice q44 (partPay 0 parts []).length c44] (partPay 0 parts []) := by rw [hpl]; exact hrd
    clear hS hrd
    obtain ⟨q1, q2⟩ := part_seal HG.out (i := 0) (parts := parts) (own := []) (by decide)
    have Q1 := Lib.hid q1
    have Q2 := Lib.hid q2
    rw [hpl] at hrd2
    refine (rseal_c _ _ hS7.inw _ _ _ hrd2).mono ?_
    rintro e' w45 ⟨v45, m45, rfl, ⟨vb, rfl, hr45⟩, hk⟩
    have hS := hS7.call hk
    rw [show g * 1048576 + 524288 + n = stampOf ⟨b, s, g, p, n⟩ from rfl, Q2.out] at hr45
    have HR := Lib.hid hr45
    clear hk hS7 hle7 hrd2 hpl hpk q1 q2 Q1 Q2 hr45
    go_wp2_with (first
    | ((with_reducible refine' Wl.out ?_; apply wl_box (ty := 70) (y := (.tmp 0)) hS); (· (first | (go_simp; done) | (go_simp; with_reducible rfl))); (· exact rfl); clear hS; intro w4 b4 hS)
    | ((with_reducible refine' Wl.out ?_; apply wl_load hS); (· (first | exact Try.underlying2)); (· exact rfl); (· exact rfl); (· (first | (apply Find.box; (· (repeat constructor)); rfl) | exact Find.mem (by assumption) | (apply Find.row; (· (repeat constructor)); assumption))))
    | ((with_reducible refine' Wl.out ?_; apply wg_load hS); (· (first | exact Try.underlying2)); (· exact rfl); (· (first | rfl | (go_simp; done))); (· exact rfl); (· (first | (apply Find.box; (· (repeat constructor)); rfl) | exact Find.mem (by assumption) | (apply Find.row; (· (repeat constructor)); assumption)))))
    go_ret
    exact ⟨_, _, rfl, HR.out, hS.done⟩
end Go.Proofs.Ytnmgiiaejpaeeaa
/- What is appended to a journal: the plain function; contract of journal.Append. -/
namespace Go.Proofs.Ytnmgiiaejpaeeaa
set_option linter.unusedVariables false
set_option linter.unusedSimpArgs false
open Go.RowKit Go.Shelf
/-- The parts from the i-th one on are written: n of them. -/
def appGo (g : Lg) (text : List Int) (parts : Nat) : Nat → Nat → Dk → Dk × Int
  | 0, _, d => (d, 0)
  | n + 1, i, d =>
    if writeE d (g.base + g.pos + i) (partB g i parts (chunkOf text i)) = 0 then appGo g text parts n (i + 1) (writeD d (g.base + g.pos + i) (partB g i parts (chunkOf text i)))
    else (writeD d (g.base + g.pos + i) (partB g i parts (chunkOf text i)), writeE d (g.base + g.pos + i) (partB g i parts (chunkOf text i)))
def app0 (d : Dk) (g : Lg) (n : Nat) : Int :=
  if ¬ (checkOK d ∧ lgOK g) then 1 else if 65536 < n then 3 else if thereB d g = false then 1 else if g.size - g.pos < needN n ∨ g.n = 262144 then 7 else 0
def appR (d : Dk) (g : Lg) (text : List Int) : Dk × Lg × Int :=
  if app0 d g text.length ≠ 0 then (dk0, lg0, app0 d g text.length)
  else
    let r := appGo g text (needN text.length).toNat (needN text.length).toNat 0 d
    if r.2 ≠ 0 then (r.1, lg0, r.2)
    else if flushE r.1 ≠ 0 then (flushD r.1, lg0, flushE r.1)
    else (flushD r.1, { g with pos := g.pos + needN text.length, n := g.n + 1 }, 0)
/-- A disk, a journal, and an error, are handed back. -/
def RetDLE (w : World) (m : Mem) (r : Dk × Lg × Int) : Ending → World → Prop := Ret w m fun v m' => ∃ cs, v = .tuple #[.agg cs.toArray, .agg (lgV r.2.1).toArray, .int .i64 r.2.2] ∧ dkL.rd m' cs r.1
theorem need_parts {n : Nat} (h : ¬ 65536 < n) : ∃ p : Nat, needN n = p ∧ 1 ≤ p ∧ p ≤ 5959 ∧ n ≤ 11 * p ∧ (∀ i, i < p → 11 * i < n ∨ (n = 0 ∧ i = 0)) := by
  refine ⟨max ((n + 10) / 11) 1, ?_, ?_, ?_, ?_, ?_⟩
  · rw [(need_ok h).1]; omega
  · omega
  · omega
  · omega
  · intro i hi; omega
theorem ret_cells2 {P : Program} {X : List Nat} {w0 w : World} {m0 m : Mem} {es : List Ent} {fn : Func} {R : Ending → World → Prop} {a : Act} {p q u : Tmp} {ty tz : TypeId} {b c n k : Nat} {vs us : List Value} (h : fn.results = #[.cell p ty, .cell q tz, .tmp u]) (hp : a.tmps.getD p undef = .pointer (some ⟨b, 0, none⟩)) (hq : a.tmps.getD q undef = .pointer (some ⟨c, 0, none⟩)) (hS : St X w0 m0 w es m) (hM : Ent.box b vs ∈ es) (hN : Ent.box c us ∈ es) (hl : vs.length = n) (hk : us.length = k)
    (hn : ∃ d, P.underlying ty = some d ∧ d.isRow = true ∧ (P.info? ty).map (·.size) = some n) (hz : ∃ d, P.underlying tz = some d ∧ d.isRow = true ∧ (P.info? tz).map (·.size) = some k) (hd : a.defers = []) (hR : R (.returned (.tuple #[.agg vs.toArray, .agg us.toArray, a.tmps.getD u undef])) w) : bodyPost P fn R .ret a w := by
  obtain ⟨d, h1, h2, h3⟩ := hn
  obtain ⟨e, k1, k2, k3⟩ := hz
  have hb : BoxIn w b vs := (hS.has _ hM).1
  have hc : BoxIn w c us := (hS.has _ hN).1
  have hrun := run_loadVar_mid (P := P) w b 0 ty vs d (fun j v hj => by rw [Nat.zero_add]; exact (hb.get j v hj).1) h1 h2 (by rw [hl]; exact h3)
  have hrun2 := run_loadVar_mid (P := P) w c 0 tz us e (fun j v hj => by rw [Nat.zero_add]; exact (hc.get j v hj).1) k1 k2 (by rw [hk]; exact k3)
  have hp' : a.tmps[p]?.getD undef = .pointer (some ⟨b, 0, none⟩) := by simpa using hp
  have hq' : a.tmps[q]?.getD undef = .pointer (some ⟨c, 0, none⟩) := by simpa using hq
  refine bodyPost_ret_by ?_ hd hR
  simp [results, h, hp', hq', asAddr, hrun, hrun2]
end Go.Proofs.Ytnmgiiaejpaeeaa
/- Contract of journal.Append. -/
namespace Go.Proofs.Ytnmgiiaejpaeeaa
set_option linter.unusedVariables false
set_option linter.unusedSimpArgs false
open Go.RowKit Go.Shelf
theorem app_ways (d : Dk) (g : Lg) (n : Nat) : (¬ checkOK d ∧ app0 d g n = 1) ∨ (checkOK d ∧ ¬ lgOK g ∧ app0 d g n = 1) ∨ (checkOK d ∧ lgOK g ∧ 65536 < n ∧ app0 d g n = 3) ∨ (checkOK d ∧ lgOK g ∧ ¬ 65536 < n ∧ thereB d g = false ∧ app0 d g n = 1) ∨
    (checkOK d ∧ lgOK g ∧ ¬ 65536 < n ∧ thereB d g = true ∧ (g.size - g.pos < needN n ∨ g.n = 262144) ∧ app0 d g n = 7) ∨ (checkOK d ∧ lgOK g ∧ ¬ 65536 < n ∧ thereB d g = true ∧ ¬ (g.size - g.pos < needN n ∨ g.n = 262144) ∧ app0 d g n = 0) := by
  unfold app0
  by_cases h1 : checkOK d
  · by_cases h2 : lgOK g
    · by_cases h3 : 65536 < n
      · simp [h1, h2, h3]
      · cases h4 : thereB d g
        · simp [h1, h2, h3]
        · by_cases h5 : g.size - g.pos < needN n ∨ g.n = 262144 <;> simp [h1, h2, h3, h5]
    · simp [h1, h2]
  · simp [h1]
theorem appR_no {d : Dk} {g : Lg} {text : List Int} {e : Int} (h : app0 d g text.length = e) (h0 : e ≠ 0) : appR d g text = (dk0, lg0, e) := by
  unfold appR; rw [if_pos (by rw [h]; exact h0), h]
theorem app_close {w w' : World} {m m' : Mem} {es : List Ent} {d : Dk} {g : Lg} {text : List Int} {e : Int} (h : app0 d g text.length = e) (h0 : e ≠ 0) (hS : St [] w m w' es m') :
    RetDLE w m (appR d g text) (.returned (.tuple #[.agg ([.slice none 0 0, .slice none 0 0, .int .i64 0, .bool false] : List Value).toArray, .agg ([.int .i64 0, .int .i64 0, .int .i64 0, .int .i64 0, .int .i64 0] : List Value).toArray, .int .i64 e])) w' := by
  rw [appR_no h h0]
  exact ⟨_, m', rfl, ⟨_, rfl, dk0_rd m'⟩, hS.done⟩
set_option maxRecDepth 100000 in
set_option maxHeartbeats 8000000 in
theorem jappend_no (m : Mem) (w : World) (hm : m.In w) (cs : List Value) (d : Dk) (hd : dkL.rd m cs d) (b s g p n : Int) (vt : Value) (text : List Int) (ht : bytesL.rd m [vt] text) (h0 : app0 d ⟨b, s, g, p, n⟩ text.length ≠ 0) :
    Calls Try.prog 54 #[.agg cs.toArray, .agg ([.int .i64 b, .int .i64 s, .int .i64 g, .int .i64 p, .int .i64 n] : List Value).toArray, vt] w (RetDLE w m (appR d ⟨b, s, g, p, n⟩ text)) := by
  obtain ⟨p0, c0, q0, a0, rfl, A0⟩ := dkL_cells hd
  have A1 := Lib.hid ht
  obtain ⟨pt, ct, rfl, o1, o2, o3, o4⟩ := Lay.list_open ht
  have hlt : text.length ≤ 140737488355328 := by simpa [Lay.int, kBytes] using o3
  have hS := St.start hm
  clear hd ht o3 o4
  rcases app_ways d ⟨b, s, g, p, n⟩ text.length with ⟨h1, hE⟩ | ⟨h1, h2, hE⟩ | ⟨h1, h2, h3, hE⟩ | ⟨h1, h2, h3, h4, hE⟩ | ⟨h1, h2, h3, h4, h5, hE⟩ | ⟨h1, h2, h3, h4, h5, hE⟩
  case inr.inr.inr.inr.inr => exact absurd hE h0
  all_goals
    have HE := Lib.hid hE
    (first | have CE : Hid (checkE d = 0) := if_pos h1 | have CE : Hid (checkE d = 1) := if_neg h1)
    (first | have GE : Hid (lcheckE ⟨b, s, g, p, n⟩ = 0) := if_pos h2 | have GE : Hid (lcheckE ⟨b, s, g, p, n⟩ = 1) := if_neg h2 | skip)
    (try have HG := Lib.hid h2)
    (try obtain ⟨j1, j2, j3, j4, j5, j6, j7, j8, j9, j10⟩ := h2)
    (try simp only at j1 j2 j3 j4 j5 j6 j7 j8 j9 j10)
    (first | have NE : Hid (needE text.length = 3) := if_pos h3 | have NE : Hid (needE text.length = 0) := if_neg h3 | skip)
    (try have TB := Lib.hid h4)
    (try have FU := Lib.hid h5)
    clear hE h0
    go_enter Try.func54, Try.ntmps54
    go_wp2_with (first
    | ((with_reducible refine' Wl.out ?_; apply wl_box (ty := 44) (y := (.tmp 0)) hS); (· (first | (go_simp; done) | (go_simp; with_reducible rfl))); (· exact rfl); clear hS; intro w3 b3 hS)
    | ((with_reducible refine' Wl.out ?_; apply wl_box (ty := 70) (y := (.tmp 1)) hS); (· (first | (go_simp; done) | (go_simp; with_reducible rfl))); (· exact rfl); clear hS; intro w4 b4 hS)
    | ((with_reducible refine' Wl.out ?_; apply wl_alloc (ty := 44) (dst := some 6) hS (.agg #[.slice none 0 0, .slice none 0 0, .int .i64 0, .bool false]) [.slice none 0 0, .slice none 0 0, .int .i64 0, .bool false]); (· kernel_rfl); (· rfl); clear hS; intro w6 b6 hS)
    | ((with_reducible refine' Wl.out ?_; apply wl_alloc (ty := 70) (dst := some 7) hS (.agg #[.int .i64 0, .int .i64 0, .int .i64 0, .int .i64 0, .int .i64 0]) [.int .i64 0, .int .i64 0, .int .i64 0, .int .i64 0, .int .i64 0]); (· kernel_rfl); (· rfl); clear hS; intro w7 b7 hS)
    | ((with_reducible refine' Wl.out ?_; apply wl_alloc (ty := 118) (dst := some 12) hS (.agg #[.int .i64 0, .int .i64 0, .slice none 0 0]) [.int .i64 0, .int .i64 0, .slice none 0 0]); (· kernel_rfl); (· rfl); clear hS; intro w12 b12 hS)
    | ((with_reducible refine' Wl.out ?_; apply wl_load hS); (· (first | exact Try.underlying2 | exact Try.underlying3)); (· exact rfl); (· exact rfl); (· (first | (apply Find.box; (· (repeat constructor)); rfl) | exact Find.mem (by assumption) | (apply Find.row; (· (repeat constructor)); assumption))))
    | ((with_reducible refine' Wl.out ?_; apply wg_load hS); (· (first | exact Try.underlying2 | exact Try.underlying3)); (· exact rfl); (· (first | rfl | (go_simp; done))); (· exact rfl); (· (first | (apply Find.box; (· (repeat constructor)); rfl) | exact Find.mem (by assumption) | (apply Find.row; (· (repeat constructor)); assumption))))
    | ((with_reducible refine' Wl.out ?_; apply wl_loads hS); (· (first | exact rowT44 | exact rowT70 | exact rowT118)); (· exact rfl); (· (first | (apply Finds.box; (· (repeat constructor)); (· (repeat constructor)); done) | (refine Finds.mem2 (by assumption) ?_; first | rfl | assumption | (simp; done)) | (apply Finds.row; (· (repeat constructor)); (· assumption); (· rfl)))))
    | ((with_reducible refine' Wl.out ?_; apply wg_loads hS); (· (first | exact rowT44 | exact rowT70 | exact rowT118)); (· (first | rfl | (go_simp; done))); (· exact rfl); (· (first | (apply Finds.box; (· (repeat constructor)); (· (repeat constructor)); done) | (refine Finds.mem2 (by assumption) ?_; first | rfl | assumption | (simp; done)) | (apply Finds.row; (· (repeat constructor)); (· assumption); (· rfl)))))
    | ((with_reducible refine' Wl.out ?_); (with_reducible refine' wg_case ?_ ?_) <;> (intro hgW; (try (have hg2 := hgW; simp [go_sem] at hg2)); (first | (exfalso; assumption) | ((with_reducible refine' Wl.out ?_; apply wl_unwanted); (· exact hgW)) | ((with_reducible refine' Wl.out ?_; apply wg_load hS); (· (first | exact Try.underlying2 | exact Try.underlying3)); (· exact rfl); (· exact hgW); (· exact rfl); (· (first | (apply Find.box; (· (repeat constructor)); rfl) | exact Find.mem (by assumption) | (apply Find.row; (· (repeat constructor)); assumption)))) | ((with_reducible refine' Wl.out ?_; apply wg_loads hS); (· (first | exact rowT44 | exact rowT70 | exact rowT118)); (· exact hgW); (· exact rfl); (· (first | (apply Finds.box; (· (repeat constructor)); (· (repeat constructor)); done) | (refine Finds.mem2 (by assumption) ?_; first | rfl | assumption | (simp; done)) | (apply Finds.row; (· (repeat constructor)); (· assumption); (· rfl)))))); clear hgW))
    | ((with_reducible refine' Wl.out ?_; apply wl_store hS); (· (first | exact rowT2 | exact rowT3)); (· exact rfl); (· (first | (go_simp; done) | (go_simp; with_reducible rfl))); (· (first | rfl | assumption | (simp [Value.oneCell']; done))); (· (repeat constructor)); (· (repeat constructor)); (· (repeat constructor)); clear hS; intro ws hS)
    | ((with_reducible refine' Wl.out ?_; apply wl_storeR hS); (· (first | exact rowT2 | exact rowT3)); (· exact rfl); (· (first | (go_simp; done) | (go_simp; with_reducible rfl))); (· (first | rfl | assumption | (simp [Value.oneCell']; done))); (· (repeat constructor)); (· (first | assumption | omega | (simp; omega))); clear hS; intro ws hS)
    | ((with_reducible refine' Wl.out ?_; apply wl_stores hS); (· (first | exact rowT44 | exact rowT70 | exact rowT118)); (· exact rfl); (· exact rfl); (· exact rfl); (· (first | assumption | (simp [Value.oneCell']; done))); (· (repeat constructor)); (· (repeat constructor)); (· (repeat constructor)); clear hS; intro ws hS)
    | (go_at_call 40; (fail_if_success (clear Mk16)); refine (letInt (check_c _ _ hS.inw _ _ (by first | exact A0.out | exact A1.out | exact R96.out | exact R107.out | exact dkL_dry A0.out | exact dkL_dry A1.out | exact dkL_dry R96.out | exact dkL_dry R107.out | exact Lay.nil_rd _ _))).mono ?_; rintro e' w16 ⟨_, m16, rfl, ⟨E16, HE16, rfl⟩, hk⟩; replace hS := hS.call hk; (try replace A0 := Lib.hid (Lay.mono _ hk.le A0.out)); (try replace A1 := Lib.hid (Lay.mono _ hk.le A1.out)); (try replace R96 := Lib.hid (Lay.mono _ hk.le R96.out)); (try replace R107 := Lib.hid (Lay.mono _ hk.le R107.out)); clear hk; replace HE16 := Lib.hid (HE16.out.trans CE.out); obtain rfl := HE16.out; have Mk16 := True.intro)
    | (go_at_call 63; (fail_if_success (clear Mk20)); refine (letInt (jcheck_v _ _ hS.inw _ _ _ _ _)).mono ?_; rintro e' w20 ⟨_, m20, rfl, ⟨E20, HE20, rfl⟩, hk⟩; replace hS := hS.call hk; (try replace A0 := Lib.hid (Lay.mono _ hk.le A0.out)); (try replace A1 := Lib.hid (Lay.mono _ hk.le A1.out)); (try replace R96 := Lib.hid (Lay.mono _ hk.le R96.out)); (try replace R107 := Lib.hid (Lay.mono _ hk.le R107.out)); clear hk; replace HE20 := Lib.hid (HE20.out.trans GE.out); obtain rfl := HE20.out; have Mk20 := True.intro)
    | (go_at_call 58; (fail_if_success (clear Mk27)); refine (letII (jneed_c _ _ hS.inw _ _ _ (by omega))).mono ?_; rintro e' w27 ⟨_, m27, rfl, ⟨N27, E27, HN27, HE27, rfl⟩, hk⟩; replace hS := hS.call hk; (try replace A0 := Lib.hid (Lay.mono _ hk.le A0.out)); (try replace A1 := Lib.hid (Lay.mono _ hk.le A1.out)); (try replace R96 := Lib.hid (Lay.mono _ hk.le R96.out)); (try replace R107 := Lib.hid (Lay.mono _ hk.le R107.out)); clear hk; replace HE27 := Lib.hid (HE27.out.trans NE.out); obtain rfl := HE27.out; have Mk27 := True.intro)
    | (go_at_call 87; (fail_if_success (clear Mk39)); refine (letB (there_c _ _ hS.inw _ _ (by first | exact A0.out | exact A1.out | exact R96.out | exact R107.out | exact dkL_dry A0.out | exact dkL_dry A1.out | exact dkL_dry R96.out | exact dkL_dry R107.out | exact Lay.nil_rd _ _) _ _ _ _ _)).mono ?_; rintro e' w39 ⟨_, m39, rfl, ⟨B39, HB39, rfl⟩, hk⟩; replace hS := hS.call hk; (try replace A0 := Lib.hid (Lay.mono _ hk.le A0.out)); (try replace A1 := Lib.hid (Lay.mono _ hk.le A1.out)); (try replace R96 := Lib.hid (Lay.mono _ hk.le R96.out)); (try replace R107 := Lib.hid (Lay.mono _ hk.le R107.out)); clear hk; replace HB39 := Lib.hid (HB39.out.trans TB.out); obtain rfl := HB39.out; have Mk39 := True.intro))
    all_goals first
      | (refine ret_cells2 (n := 4) (k := 5) rfl rfl rfl hS (by (repeat constructor)) (by (repeat constructor)) rfl rfl dkRow lgRow rfl ?_
         exact app_close HE.out (by decide) hS)
      | (exfalso
         have hf := FU.out
         rw [← HN27.out] at hf
         have hq : ¬ n = 262144 := by
           have hz : (n == 262144) = false := And.right ‹N27 ≤ s - p ∧ (n == 262144) = false›
           simpa using hz
         exact hq (hf.resolve_left (by omega)))
/-- Where all may be: the parts are written one behind the other. -/
theorem appR_yes {d : Dk} {g : Lg} {text : List Int} (h : app0 d g text.length = 0) : appR d g text = (let r := appGo g text (needN text.length).toNat (needN text.length).toNat 0 d; if r.2 ≠ 0 then (r.1, lg0, r.2) else if flushE r.1 ≠ 0 then (flushD r.1, lg0, flushE r.1) else (flushD r.1, { g with pos := g.pos + needN text.length, n := g.n + 1 }, 0)) := by
  unfold appR; rw [if_neg (by rw [h]; decide)]
theorem app_zero {d : Dk} {g : Lg} {n : Nat} (h : app0 d g n = 0) : checkOK d ∧ lgOK g ∧ ¬ 65536 < n ∧ thereB d g = true ∧ ¬ (g.size - g.pos < needN n ∨ g.n = 262144) := by
  rcases app_ways d g n with h' | h' | h' | h' | h' | h'
  · rw [h'.2] at h; cases h
  · rw [h'.2.2] at h; cases h
  · rw [h'.2.2.2] at h; cases h
  · rw [h'.2.2.2.2] at h; cases h
  · rw [h'.2.2.2.2.2] at h; cases h
  · exact ⟨h'.1, h'.2.1, h'.2.2.1, h'.2.2.2.1, h'.2.2.2.2.1⟩
end Go.Proofs.Ytnmgiiaejpaeeaa
/- Contract of journal.Append where it may be. -/
namespace Go.Proofs.Ytnmgiiaejpaeeaa
set_option linter.unusedVariables false
set_option linter.unusedSimpArgs false
open Go.RowKit Go.Shelf
theorem appGo_step {g : Lg} {text : List Int} {parts n i : Nat} {d D : Dk} {e : Int} (h : i < n) (hD : D = writeD d (g.base + g.pos + i) (partB g i parts (chunkOf text i))) (he : e = writeE d (g.base + g.pos + i) (partB g i parts (chunkOf text i))) :
    (e = 0 → appGo g text parts (n - i) i d = appGo g text parts (n - (i + 1)) (i + 1) D) ∧ (e ≠ 0 → appGo g text parts (n - i) i d = (D, e)) := by
  rw [show n - i = (n - (i + 1)) + 1 by omega]
  subst hD he
  exact ⟨fun h => by rw [appGo, if_pos h], fun h => by rw [appGo, if_neg h]⟩
theorem app_end1 {d D : Dk} {g : Lg} {text : List Int} {P : Nat} {e : Int} (h : app0 d g text.length = 0) (hP : needN text.length = P) (hR : appGo g text P P 0 d = (D, e)) (he : e ≠ 0) : appR d g text = (D, lg0, e) := by
  rw [appR_yes h, hP, Int.toNat_natCast, hR]; simp only; rw [if_pos he]
theorem app_end2 {d D : Dk} {g : Lg} {text : List Int} {P : Nat} (h : app0 d g text.length = 0) (hP : needN text.length = P) (hR : appGo g text P P 0 d = (D, 0)) (he : flushE D ≠ 0) : appR d g text = (flushD D, lg0, flushE D) := by
  rw [appR_yes h, hP, Int.toNat_natCast, hR]; simp only; rw [if_neg (by decide), if_pos he]
theorem app_end3 {d D : Dk} {g : Lg} {text : List Int} {P : Nat} (h : app0 d g text.length = 0) (hP : needN text.length = P) (hR : appGo g text P P 0 d = (D, 0)) (he : flushE D = 0) : appR d g text = (flushD D, { g with pos := g.pos + P, n := g.n + 1 }, 0) := by
  rw [appR_yes h, hP, Int.toNat_natCast, hR]; simp only; rw [if_neg (by decide), if_neg (by rw [he]; decide)]
set_option maxRecDepth 100000 in
set_option maxHeartbeats 8000000 in
theorem jappend_yes (m : Mem) (w : World) (hm : m.In w) (cs : List Value) (d : Dk) (hd : dkL.rd m cs d) (b s g p n : Int) (vt : Value) (text : List Int) (ht : bytesL.rd m [vt] text) (h0 : app0 d ⟨b, s, g, p, n⟩ text.length = 0) (hne : 0 < text.length) :
    Calls Try.prog 54 #[.agg cs.toArray, .agg ([.int .i64 b, .int .i64 s, .int .i64 g, .int .i64 p, .int .i64 n] : List Value).toArray, vt] w (RetDLE w m (appR d ⟨b, s, g, p, n⟩ text)) := by
  obtain ⟨p0, c0, q0, a0, rfl, A0⟩ := dkL_cells hd
  have A1 := Lib.hid ht
  obtain ⟨pt, ct, rfl, o1, o2, o3, o4⟩ := Lay.list_open ht
  obtain ⟨b0, o0, rfl, _⟩ := o4 hne
  have hS := St.start hm
  obtain ⟨h1, h2, h3, h4, h5⟩ := app_zero h0
  obtain ⟨P, hP, P1, P2, P3, P4⟩ := need_parts h3
  have HP := Lib.hid hP
  have HE := Lib.hid h0
  have HPI := Lib.hid P4
  have CE : Hid (checkE d = 0) := if_pos h1
  have GE : Hid (lcheckE ⟨b, s, g, p, n⟩ = 0) := if_pos h2
  have HG := Lib.hid h2
  obtain ⟨j1, j2, j3, j4, j5, j6, j7, j8, j9, j10⟩ := h2
  simp only at j1 j2 j3 j4 j5 j6 j7 j8 j9 j10 h5
  rw [hP] at h5
  have NE : Hid (needE text.length = 0) := if_neg h3
  have TB := Lib.hid h4
  have h6 : (P : Int) ≤ s - p := by omega
  have h7 : (n == 262144) = false := by simp; omega
  simp only [maxLen] at o2
  clear hd ht o3 o4 h0 hP h4 h5 P4
  go_enter Try.func54, Try.ntmps54
  go_wp2_with (first
    | ((with_reducible refine' Wl.out ?_; apply wl_box (ty := 44) (y := (.tmp 0)) hS); (· (first | (go_simp; done) | (go_simp; with_reducible rfl))); (· exact rfl); clear hS; intro w3 b3 hS)
    | ((with_reducible refine' Wl.out ?_; apply wl_box (ty := 70) (y := (.tmp 1)) hS); (· (first | (go_simp; done) | (go_simp; with_reducible rfl))); (· exact rfl); clear hS; intro w4 b4 hS)
    | ((with_reducible refine' Wl.out ?_; apply wl_alloc (ty := 44) (dst := some 6) hS (.agg #[.slice none 0 0, .slice none 0 0, .int .i64 0, .bool false]) [.slice none 0 0, .slice none 0 0, .int .i64 0, .bool false]); (· kernel_rfl); (· rfl); clear hS; intro w6 b6 hS)
    | ((with_reducible refine' Wl.out ?_; apply wl_alloc (ty := 70) (dst := some 7) hS (.agg #[.int .i64 0, .int .i64 0, .int .i64 0, .int .i64 0, .int .i64 0]) [.int .i64 0, .int .i64 0, .int .i64 0, .int .i64 0, .int .i64 0]); (· kernel_rfl); (· rfl); clear hS; intro w7 b7 hS)
    | ((with_reducible refine' Wl.out ?_; apply wl_alloc (ty := 118) (dst := some 12) hS (.agg #[.int .i64 0, .int .i64 0, .slice none 0 0]) [.int .i64 0, .int .i64 0, .slice none 0 0]); (· kernel_rfl); (· rfl); clear hS; intro w12 b12 hS)
    | ((with_reducible refine' Wl.out ?_; apply wl_load hS); (· (first | exact Try.underlying2 | exact Try.underlying3)); (· exact rfl); (· exact rfl); (· (first | (apply Find.box; (· (repeat constructor)); rfl) | exact Find.mem (by assumption) | (apply Find.row; (· (repeat constructor)); assumption))))
    | ((with_reducible refine' Wl.out ?_; apply wg_load hS); (· (first | exact Try.underlying2 | exact Try.underlying3)); (· exact rfl); (· (first | rfl | (go_simp; done))); (· exact rfl); (· (first | (apply Find.box; (· (repeat constructor)); rfl) | exact Find.mem (by assumption) | (apply Find.row; (· (repeat constructor)); assumption))))
    | ((with_reducible refine' Wl.out ?_; apply wl_loads hS); (· (first | exact rowT44 | exact rowT70 | exact rowT118)); (· exact rfl); (· (first | (apply Finds.box; (· (repeat constructor)); (· (repeat constructor)); done) | (refine Finds.mem2 (by assumption) ?_; first | rfl | assumption | (simp; done)) | (apply Finds.row; (· (repeat constructor)); (· assumption); (· rfl)))))
    | ((with_reducible refine' Wl.out ?_; apply wg_loads hS); (· (first | exact rowT44 | exact rowT70 | exact rowT118)); (· (first | rfl | (go_simp; done))); (· exact rfl); (· (first | (apply Finds.box; (· (repeat constructor)); (· (repeat constructor)); done) | (refine Finds.mem2 (by assumption) ?_; first | rfl | assumption | (simp; done)) | (apply Finds.row; (· (repeat constructor)); (· assumption); (· rfl)))))
    | ((with_reducible refine' Wl.out ?_); (with_reducible refine' wg_case ?_ ?_) <;> (intro hgW; (try (have hg2 := hgW; simp [go_sem] at hg2)); (first | (exfalso; assumption) | ((with_reducible refine' Wl.out ?_; apply wl_unwanted); (· exact hgW)) | ((with_reducible refine' Wl.out ?_; apply wg_load hS); (· (first | exact Try.underlying2 | exact Try.underlying3)); (· exact rfl); (· exact hgW); (· exact rfl); (· (first | (apply Find.box; (· (repeat constructor)); rfl) | exact Find.mem (by assumption) | (apply Find.row; (· (repeat constructor)); assumption)))) | ((with_reducible refine' Wl.out ?_; apply wg_loads hS); (· (first | exact rowT44 | exact rowT70 | exact rowT118)); (· exact hgW); (· exact rfl); (· (first | (apply Finds.box; (· (repeat constructor)); (· (repeat constructor)); done) | (refine Finds.mem2 (by assumption) ?_; first | rfl | assumption | (simp; done)) | (apply Finds.row; (· (repeat constructor)); (· assumption); (· rfl)))))); clear hgW))
    | ((with_reducible refine' Wl.out ?_; apply wl_store hS); (· (first | exact rowT2 | exact rowT3)); (· exact rfl); (· (first | (go_simp; done) | (go_simp; with_reducible rfl))); (· (first | rfl | assumption | (simp [Value.oneCell']; done))); (· (repeat constructor)); (· (repeat constructor)); (· (repeat constructor)); clear hS; intro ws hS)
    | ((with_reducible refine' Wl.out ?_; apply wl_storeR hS); (· (first | exact rowT2 | exact rowT3)); (· exact rfl); (· (first | (go_simp; done) | (go_simp; with_reducible rfl))); (· (first | rfl | assumption | (simp [Value.oneCell']; done))); (· (repeat constructor)); (· (first | assumption | omega | (simp; omega))); clear hS; intro ws hS)
    | ((with_reducible refine' Wl.out ?_; apply wl_stores hS); (· (first | exact rowT44 | exact rowT70 | exact rowT118)); (· exact rfl); (· exact rfl); (· exact rfl); (· (first | assumption | (simp [Value.oneCell']; done))); (· (repeat constructor)); (· (repeat constructor)); (· (repeat constructor)); clear hS; intro ws hS)
    | (go_at_call 40; (fail_if_success (clear Mk16)); refine (letInt (check_c _ _ hS.inw _ _ (by first | exact A0.out | exact A1.out | exact A2.out | exact A3.out | exact A4.out | exact R96.out | exact R107.out | exact dkL_dry A0.out | exact dkL_dry A1.out | exact dkL_dry A2.out | exact dkL_dry A3.out | exact dkL_dry A4.out | exact dkL_dry R96.out | exact dkL_dry R107.out | exact Lay.nil_rd _ _))).mono ?_; rintro e' w16 ⟨_, m16, rfl, ⟨E16, HE16, rfl⟩, hk⟩; replace hS := hS.call hk; (try replace A0 := Lib.hid (Lay.mono _ hk.le A0.out)); (try replace A1 := Lib.hid (Lay.mono _ hk.le A1.out)); (try replace A2 := Lib.hid (Lay.mono _ hk.le A2.out)); (try replace A3 := Lib.hid (Lay.mono _ hk.le A3.out)); (try replace A4 := Lib.hid (Lay.mono _ hk.le A4.out)); (try replace R96 := Lib.hid (Lay.mono _ hk.le R96.out)); (try replace R107 := Lib.hid (Lay.mono _ hk.le R107.out)); clear hk; replace HE16 := Lib.hid (HE16.out.trans CE.out); obtain rfl := HE16.out; have Mk16 := True.intro)
    | (go_at_call 63; (fail_if_success (clear Mk20)); refine (letInt (jcheck_v _ _ hS.inw _ _ _ _ _)).mono ?_; rintro e' w20 ⟨_, m20, rfl, ⟨E20, HE20, rfl⟩, hk⟩; replace hS := hS.call hk; (try replace A0 := Lib.hid (Lay.mono _ hk.le A0.out)); (try replace A1 := Lib.hid (Lay.mono _ hk.le A1.out)); (try replace A2 := Lib.hid (Lay.mono _ hk.le A2.out)); (try replace A3 := Lib.hid (Lay.mono _ hk.le A3.out)); (try replace A4 := Lib.hid (Lay.mono _ hk.le A4.out)); (try replace R96 := Lib.hid (Lay.mono _ hk.le R96.out)); (try replace R107 := Lib.hid (Lay.mono _ hk.le R107.out)); clear hk; replace HE20 := Lib.hid (HE20.out.trans GE.out); obtain rfl := HE20.out; have Mk20 := True.intro)
    | (go_at_call 58; (fail_if_success (clear Mk27)); refine (letII (jneed_c _ _ hS.inw _ _ _ (by omega))).mono ?_; rintro e' w27 ⟨_, m27, rfl, ⟨N27, E27, HN27, HE27, rfl⟩, hk⟩; replace hS := hS.call hk; (try replace A0 := Lib.hid (Lay.mono _ hk.le A0.out)); (try replace A1 := Lib.hid (Lay.mono _ hk.le A1.out)); (try replace A2 := Lib.hid (Lay.mono _ hk.le A2.out)); (try replace A3 := Lib.hid (Lay.mono _ hk.le A3.out)); (try replace A4 := Lib.hid (Lay.mono _ hk.le A4.out)); (try replace R96 := Lib.hid (Lay.mono _ hk.le R96.out)); (try replace R107 := Lib.hid (Lay.mono _ hk.le R107.out)); clear hk; replace HE27 := Lib.hid (HE27.out.trans NE.out); obtain rfl := HE27.out; replace HN27 := Lib.hid (HN27.out.trans HP.out); obtain rfl := HN27.out; have Mk27 := True.intro)
    | (go_at_call 87; (fail_if_success (clear Mk39)); refine (letB (there_c _ _ hS.inw _ _ (by first | exact A0.out | exact A1.out | exact A2.out | exact A3.out | exact A4.out | exact R96.out | exact R107.out | exact dkL_dry A0.out | exact dkL_dry A1.out | exact dkL_dry A2.out | exact dkL_dry A3.out | exact dkL_dry A4.out | exact dkL_dry R96.out | exact dkL_dry R107.out | exact Lay.nil_rd _ _) _ _ _ _ _)).mono ?_; rintro e' w39 ⟨_, m39, rfl, ⟨B39, HB39, rfl⟩, hk⟩; replace hS := hS.call hk; (try replace A0 := Lib.hid (Lay.mono _ hk.le A0.out)); (try replace A1 := Lib.hid (Lay.mono _ hk.le A1.out)); (try replace A2 := Lib.hid (Lay.mono _ hk.le A2.out)); (try replace A3 := Lib.hid (Lay.mono _ hk.le A3.out)); (try replace A4 := Lib.hid (Lay.mono _ hk.le A4.out)); (try replace R96 := Lib.hid (Lay.mono _ hk.le R96.out)); (try replace R107 := Lib.hid (Lay.mono _ hk.le R107.out)); clear hk; replace HB39 := Lib.hid (HB39.out.trans TB.out); obtain rfl := HB39.out; have Mk39 := True.intro))
  obtain ⟨R, hR⟩ : ∃ R, R = appGo ⟨b, s, g, p, n⟩ text P P 0 d := ⟨_, rfl⟩
  have HR := Lib.hid hR
  clear hR
  go_loopw [59] (fun i wr => ∃ (k : Nat) (D : Dk) (pd qd : Option Addr) (cd ad : Nat) (m' : Mem), k ≤ P ∧ i = .int .i64 k ∧ Hid (appGo ⟨b, s, g, p, n⟩ text P (P - k) k D = R) ∧ Hid (dkL.rd m' [.slice pd D.dry.length cd, .slice qd D.wet.length ad, .int .i64 D.fuse, .bool D.dead] D) ∧ Hid (bytesL.rd m' [.slice (some ⟨b0, o0, none⟩) text.length ct] text) ∧
    St [] w m wr [.box b7 [.int .i64 0, .int .i64 0, .int .i64 0, .int .i64 0, .int .i64 0], .box b6 [.slice none 0 0, .slice none 0 0, .int .i64 0, .bool false], .box b4 [.int .i64 b, .int .i64 s, .int .i64 g, .int .i64 p, .int .i64 n], .box b3 [.slice pd D.dry.length cd, .slice qd D.wet.length ad, .int .i64 D.fuse, .bool D.dead]] m') (fun i _ => P - (intOf i).toNat)
  case atStart => exact ⟨0, d, _, _, _, _, _, Nat.zero_le _, rfl, HR.out.symm, A0, A1, hS⟩
  case round =>
    clear hS A0 A1
    obtain ⟨k, D, pd, qd, cd, ad, m', hk, rfl, HGO, A2, A3, hS⟩ := hrel
    by_cases hlt : k < P
    · have hik : 11 * k < text.length := (HPI.out k hlt).resolve_right (fun h => by omega)
      have hpart := rdL_part A3.out (k * 11) (min (k * 11 + 11) text.length) (by omega) (by omega)
      rw [show (Lay.int .u8).n = 1 from rfl, Nat.mul_one, Nat.mul_comm k 11, chunk_min, Nat.mul_comm 11 k] at hpart
      have hcl := chunk_len text k
      obtain ⟨own, hown⟩ : ∃ own, own = chunkOf text k := ⟨_, rfl⟩
      rw [← hown] at hpart hcl
      obtain ⟨hi2, hh⟩ : ∃ u, u = min (k * 11 + 11) text.length := ⟨_, rfl⟩
      have hle2 : hi2 - k * 11 = own.length := by omega
      rw [← hh] at hpart
      rw [hle2] at hpart
      have A4 := Lib.hid hpart
      have hol : own.length ≤ 11 := by omega
      have y1 : ¬ ct = k * 11 := by omega
      have hmin : min (((k : Int) + 1) * 11) (text.length : Int) = (hi2 : Int) := by omega
      have HOWN := Lib.hid hown
      have u1 : k * 11 ≤ hi2 := by omega
      have u2 : hi2 ≤ text.length := by omega
      clear hpart hcl hown hh
      go_wp2_with (first
    | ((with_reducible refine' Wl.out ?_; apply wl_box (ty := 44) (y := (.tmp 0)) hS); (· (first | (go_simp; done) | (go_simp; with_reducible rfl))); (· exact rfl); clear hS; intro w3 b3 hS)
    | ((with_reducible refine' Wl.out ?_; apply wl_box (ty := 70) (y := (.tmp 1)) hS); (· (first | (go_simp; done) | (go_simp; with_reducible rfl))); (· exact rfl); clear hS; intro w4 b4 hS)
    | ((with_reducible refine' Wl.out ?_; apply wl_alloc (ty := 44) (dst := some 6) hS (.agg #[.slice none 0 0, .slice none 0 0, .int .i64 0, .bool false]) [.slice none 0 0, .slice none 0 0, .int .i64 0, .bool false]); (· kernel_rfl); (· rfl); clear hS; intro w6 b6 hS)
    | ((with_reducible refine' Wl.out ?_; apply wl_alloc (ty := 70) (dst := some 7) hS (.agg #[.int .i64 0, .int .i64 0, .int .i64 0, .int .i64 0, .int .i64 0]) [.int .i64 0, .int .i64 0, .int .i64 0, .int .i64 0, .int .i64 0]); (· kernel_rfl); (· rfl); clear hS; intro w7 b7 hS)
    | ((with_reducible refine' Wl.out ?_; apply wl_alloc (ty := 118) (dst := some 12) hS (.agg #[.int .i64 0, .int .i64 0, .slice none 0 0]) [.int .i64 0, .int .i64 0, .slice none 0 0]); (· kernel_rfl); (· rfl); clear hS; intro w12 b12 hS)
    | ((with_reducible refine' Wl.out ?_; apply wl_load hS); (· (first | exact Try.underlying2 | exact Try.underlying3)); (· exact rfl); (· exact rfl); (· (first | (apply Find.box; (· (repeat constructor)); rfl) | exact Find.mem (by assumption) | (apply Find.row; (· (repeat constructor)); assumption))))
    | ((with_reducible refine' Wl.out ?_; apply wg_load hS); (· (first | exact Try.underlying2 | exact Try.underlying3)); (· exact rfl); (· (first | rfl | (go_simp; done))); (· exact rfl); (· (first | (apply Find.box; (· (repeat constructor)); rfl) | exact Find.mem (by assumption) | (apply Find.row; (· (repeat constructor)); assumption))))
    | ((with_reducible refine' Wl.out ?_; apply wl_loads hS); (· (first | exact rowT44 | exact rowT70 | exact rowT118)); (· exact rfl); (· (first | (apply Finds.box; (· (repeat constructor)); (· (repeat constructor)); done) | (refine Finds.mem2 (by assumption) ?_; first | rfl | assumption | (simp; done)) | (apply Finds.row; (· (repeat constructor)); (· assumption); (· rfl)))))
    | ((with_reducible refine' Wl.out ?_; apply wg_loads hS); (· (first | exact rowT44 | exact rowT70 | exact rowT118)); (· (first | rfl | (go_simp; done))); (· exact rfl); (· (first | (apply Finds.box; (· (repeat constructor)); (· (repeat constructor)); done) | (refine Finds.mem2 (by assumption) ?_; first | rfl | assumption | (simp; done)) | (apply Finds.row; (· (repeat constructor)); (· assumption); (· rfl)))))
    | ((with_reducible refine' Wl.out ?_); (with_reducible refine' wg_case ?_ ?_) <;> (intro hgW; (try (have hg2 := hgW; simp [go_sem] at hg2)); (first | (exfalso; assumption) | ((with_reducible refine' Wl.out ?_; apply wl_unwanted); (· exact hgW)) | ((with_reducible refine' Wl.out ?_; apply wg_load hS); (· (first | exact Try.underlying2 | exact Try.underlying3)); (· exact rfl); (· exact hgW); (· exact rfl); (· (first | (apply Find.box; (· (repeat constructor)); rfl) | exact Find.mem (by assumption) | (apply Find.row; (· (repeat constructor)); assumption)))) | ((with_reducible refine' Wl.out ?_; apply wg_loads hS); (· (first | exact rowT44 | exact rowT70 | exact rowT118)); (· exact hgW); (· exact rfl); (· (first | (apply Finds.box; (· (repeat constructor)); (· (repeat constructor)); done) | (refine Finds.mem2 (by assumption) ?_; first | rfl | assumption | (simp; done)) | (apply Finds.row; (· (repeat constructor)); (· assumption); (· rfl)))))); clear hgW))
    | ((with_reducible refine' Wl.out ?_; apply wl_store hS); (· (first | exact rowT2 | exact rowT3)); (· exact rfl); (· (first | (go_simp; done) | (go_simp; with_reducible rfl))); (· (first | rfl | assumption | (simp [Value.oneCell']; done))); (· (repeat constructor)); (· (repeat constructor)); (· (repeat constructor)); clear hS; intro ws hS)
    | ((with_reducible refine' Wl.out ?_; apply wl_storeR hS); (· (first | exact rowT2 | exact rowT3)); (· exact rfl); (· (first | (go_simp; done) | (go_simp; with_reducible rfl))); (· (first | rfl | assumption | (simp [Value.oneCell']; done))); (· (repeat constructor)); (· (first | assumption | omega | (simp; omega))); clear hS; intro ws hS)
    | ((with_reducible refine' Wl.out ?_; apply wl_stores hS); (· (first | exact rowT44 | exact rowT70 | exact rowT118)); (· exact rfl); (· exact rfl); (· exact rfl); (· (first | assumption | (simp [Value.oneCell']; done))); (· (repeat constructor)); (· (repeat constructor)); (· (repeat constructor)); clear hS; intro ws hS)
        | (go_at_call 88; refine (letBE (pseal_c _ _ hS.inw k P _ own A4.out _ _ _ _ _ HG.out hol (by omega) (by omega))).mono ?_; rintro e' w78 ⟨_, m78, rfl, ⟨p78, c78, Y78, E78, HY78, HE78, rfl, R78, C78⟩, hk78⟩; replace hS := hS.call hk78; have hk := hk78; (try replace A2 := Lib.hid (Lay.mono _ hk.le A2.out)); (try replace A3 := Lib.hid (Lay.mono _ hk.le A3.out)); (try replace A4 := Lib.hid (Lay.mono _ hk.le A4.out)); clear hk hk78; obtain rfl := HE78.out)
        | (go_at_call 35; refine (letDE (write_c _ _ hS.inw _ _ A2.out _ (inK64 (by omega) (by omega)) _ _ R78.out)).mono ?_; rintro e' w96 ⟨_, m96, rfl, ⟨p96, c96, q96, a96, D96, E96, HD96, HE96, rfl, R96⟩, hk96⟩; replace hS := hS.call hk96; have hk := hk96; (try replace A2 := Lib.hid (Lay.mono _ hk.le A2.out)); (try replace A3 := Lib.hid (Lay.mono _ hk.le A3.out)); (try replace A4 := Lib.hid (Lay.mono _ hk.le A4.out)); clear hk hk96))
      · have hst := appGo_step (g := ⟨b, s, g, p, n⟩) (text := text) (parts := P) (n := P) hlt (HD96.out.trans (by rw [HY78.out, HOWN.out])) (HE96.out.trans (by rw [HY78.out, HOWN.out]))
        have he : E96 ≠ 0 := by simp_all
        have hR2 : R = (D96, E96) := HGO.out.symm.trans (hst.2 he)
        refine ret_cells2 (n := 4) (k := 5) rfl rfl rfl hS (by (repeat constructor)) (by (repeat constructor)) rfl rfl dkRow lgRow rfl ?_
        rw [app_end1 HE.out HP.out (HR.out.symm.trans hR2) he]
        exact ⟨_, _, rfl, ⟨_, rfl, R96.out⟩, hS.done⟩
      · have hst := appGo_step (g := ⟨b, s, g, p, n⟩) (text := text) (parts := P) (n := P) hlt (HD96.out.trans (by rw [HY78.out, HOWN.out])) (HE96.out.trans (by rw [HY78.out, HOWN.out]))
        have he : E96 = 0 := by simp_all
        have HGO2 := Lib.hid ((hst.1 he).symm.trans HGO.out)
        clear hst
        go_roundw
        case rel => exact ⟨k + 1, D96, _, _, _, _, _, hlt, by go_num, HGO2, R96, A3, hS.forget (x := .box b12 _) (by (repeat constructor))⟩
        case measure => simp [intOf]; omega
    · obtain rfl : k = P := by omega
      have hR2 : R = (D, 0) := by have := HGO.out; rw [Nat.sub_self] at this; exact this.symm
      have HR2 := Lib.hid hR2
      clear hR2 HGO
      go_wp2_with (first
    | ((with_reducible refine' Wl.out ?_; apply wl_box (ty := 44) (y := (.tmp 0)) hS); (· (first | (go_simp; done) | (go_simp; with_reducible rfl))); (· exact rfl); clear hS; intro w3 b3 hS)
    | ((with_reducible refine' Wl.out ?_; apply wl_box (ty := 70) (y := (.tmp 1)) hS); (· (first | (go_simp; done) | (go_simp; with_reducible rfl))); (· exact rfl); clear hS; intro w4 b4 hS)
    | ((with_reducible refine' Wl.out ?_; apply wl_alloc (ty := 44) (dst := some 6) hS (.agg #[.slice none 0 0, .slice none 0 0, .int .i64 0, .bool false]) [.slice none 0 0, .slice none 0 0, .int .i64 0, .bool false]); (· kernel_rfl); (· rfl); clear hS; intro w6 b6 hS)
    | ((with_reducible refine' Wl.out ?_; apply wl_alloc (ty := 70) (dst := some 7) hS (.agg #[.int .i64 0, .int .i64 0, .int .i64 0, .int .i64 0, .int .i64 0]) [.int .i64 0, .int .i64 0, .int .i64 0, .int .i64 0, .int .i64 0]); (· kernel_rfl); (· rfl); clear hS; intro w7 b7 hS)
    | ((with_reducible refine' Wl.out ?_; apply wl_alloc (ty := 118) (dst := some 12) hS (.agg #[.int .i64 0, .int .i64 0, .slice none 0 0]) [.int .i64 0, .int .i64 0, .slice none 0 0]); (· kernel_rfl); (· rfl); clear hS; intro w12 b12 hS)
    | ((with_reducible refine' Wl.out ?_; apply wl_load hS); (· (first | exact Try.underlying2 | exact Try.underlying3)); (· exact rfl); (· exact rfl); (· (first | (apply Find.box; (· (repeat constructor)); rfl) | exact Find.mem (by assumption) | (apply Find.row; (· (repeat constructor)); assumption))))
    | ((with_reducible refine' Wl.out ?_; apply wg_load hS); (· (first | exact Try.underlying2 | exact Try.underlying3)); (· exact rfl); (· (first | rfl | (go_simp; done))); (· exact rfl); (· (first | (apply Find.box; (· (repeat constructor)); rfl) | exact Find.mem (by assumption) | (apply Find.row; (· (repeat constructor)); assumption))))
    | ((with_reducible refine' Wl.out ?_; apply wl_loads hS); (· (first | exact rowT44 | exact rowT70 | exact rowT118)); (· exact rfl); (· (first | (apply Finds.box; (· (repeat constructor)); (· (repeat constructor)); done) | (refine Finds.mem2 (by assumption) ?_; first | rfl | assumption | (simp; done)) | (apply Finds.row; (· (repeat constructor)); (· assumption); (· rfl)))))
    | ((with_reducible refine' Wl.out ?_; apply wg_loads hS); (· (first | exact rowT44 | exact rowT70 | exact rowT118)); (· (first | rfl | (go_simp; done))); (· exact rfl); (· (first | (apply Finds.box; (· (repeat constructor)); (· (repeat constructor)); done) | (refine Finds.mem2 (by assumption) ?_; first | rfl | assumption | (simp; done)) | (apply Finds.row; (· (repeat constructor)); (· assumption); (· rfl)))))
    | ((with_reducible refine' Wl.out ?_); (with_reducible refine' wg_case ?_ ?_) <;> (intro hgW; (try (have hg2 := hgW; simp [go_sem] at hg2)); (first | (exfalso; assumption) | ((with_reducible refine' Wl.out ?_; apply wl_unwanted); (· exact hgW)) | ((with_reducible refine' Wl.out ?_; apply wg_load hS); (· (first | exact Try.underlying2 | exact Try.underlying3)); (· exact rfl); (· exact hgW); (· exact rfl); (· (first | (apply Find.box; (· (repeat constructor)); rfl) | exact Find.mem (by assumption) | (apply Find.row; (· (repeat constructor)); assumption)))) | ((with_reducible refine' Wl.out ?_; apply wg_loads hS); (· (first | exact rowT44 | exact rowT70 | exact rowT118)); (· exact hgW); (· exact rfl); (· (first | (apply Finds.box; (· (repeat constructor)); (· (repeat constructor)); done) | (refine Finds.mem2 (by assumption) ?_; first | rfl | assumption | (simp; done)) | (apply Finds.row; (· (repeat constructor)); (· assumption); (· rfl)))))); clear hgW))
    | ((with_reducible refine' Wl.out ?_; apply wl_store hS); (· (first | exact rowT2 | exact rowT3)); (· exact rfl); (· (first | (go_simp; done) | (go_simp; with_reducible rfl))); (· (first | rfl | assumption | (simp [Value.oneCell']; done))); (· (repeat constructor)); (· (repeat constructor)); (· (repeat constructor)); clear hS; intro ws hS)
    | ((with_reducible refine' Wl.out ?_; apply wl_storeR hS); (· (first | exact rowT2 | exact rowT3)); (· exact rfl); (· (first | (go_simp; done) | (go_simp; with_reducible rfl))); (· (first | rfl | assumption | (simp [Value.oneCell']; done))); (· (repeat constructor)); (· (first | assumption | omega | (simp; omega))); clear hS; intro ws hS)
    | ((with_reducible refine' Wl.out ?_; apply wl_stores hS); (· (first | exact rowT44 | exact rowT70 | exact rowT118)); (· exact rfl); (· exact rfl); (· exact rfl); (· (first | assumption | (simp [Value.oneCell']; done))); (· (repeat constructor)); (· (repeat constructor)); (· (repeat constructor)); clear hS; intro ws hS)
    | (go_at_call 37; (fail_if_success (clear Mk107)); refine (letDE (flush_c _ _ hS.inw _ _ (by first | exact A0.out | exact A1.out | exact A2.out | exact A3.out | exact A4.out | exact R96.out | exact R107.out | exact dkL_dry A0.out | exact dkL_dry A1.out | exact dkL_dry A2.out | exact dkL_dry A3.out | exact dkL_dry A4.out | exact dkL_dry R96.out | exact dkL_dry R107.out | exact Lay.nil_rd _ _))).mono ?_; rintro e' w107 ⟨_, m107, rfl, ⟨p107, c107, q107, a107, D107, E107, HD107, HE107, rfl, R107⟩, hk⟩; replace hS := hS.call hk; (try replace A0 := Lib.hid (Lay.mono _ hk.le A0.out)); (try replace A1 := Lib.hid (Lay.mono _ hk.le A1.out)); (try replace A2 := Lib.hid (Lay.mono _ hk.le A2.out)); (try replace A3 := Lib.hid (Lay.mono _ hk.le A3.out)); (try replace A4 := Lib.hid (Lay.mono _ hk.le A4.out)); (try replace R96 := Lib.hid (Lay.mono _ hk.le R96.out)); (try replace R107 := Lib.hid (Lay.mono _ hk.le R107.out)); clear hk; have Mk107 := True.intro))
      · have he : E107 ≠ 0 := by simp_all
        refine ret_cells2 (n := 4) (k := 5) rfl rfl rfl hS (by (repeat constructor)) (by (repeat constructor)) rfl rfl dkRow lgRow rfl ?_
        rw [app_end2 HE.out HP.out (HR.out.symm.trans HR2.out) (by rw [← HE107.out]; exact he), ← HD107.out, ← HE107.out]
        exact ⟨_, _, rfl, ⟨_, rfl, R107.out⟩, hS.done⟩
      have he : E107 = 0 := by simp_all
      have HE0 := Lib.hid he
      clear he
      replace hS := hS.drew
      refine startL (S := Sx _ [(b3, _), (b4, _)]) (by kernel_rfl) ((hS.sx0.cons hS (by (repeat constructor))).cons hS (by (repeat constructor))) (fun _ _ _ _ => trivial) (fun hHeld => ?_)
      refine takeN 0 rfl (by kernel_rfl) (yield_loads rfl rowT44 rfl (by (first | (apply FindsX.box; (· (repeat constructor)); (· (repeat constructor)); done) | (refine FindsX.mem (by assumption) ?_; first | rfl | assumption | (simp; done))))) ?_
      try simp only [Act.put, nz1, nz2, nz3]
      refine takeN 1 rfl (by kernel_rfl) (yield_loads rfl rowT70 rfl (by (first | (apply FindsX.box; (· (repeat constructor)); (· (repeat constructor)); done) | (refine FindsX.mem (by assumption) ?_; first | rfl | assumption | (simp; done))))) ?_
      try simp only [Act.put, nz1, nz2, nz3]
      refine wpAnyH_ready (rs := [2]) (by kernel_rfl) (by simp) ?_
      refine consL 2 rfl (fun K hK => ?_) AllReadyH.nil
      (with_reducible apply s_stores hS); (· exact rowT44); (· exact rfl); (· exact rfl); (· exact rfl); (· (first | assumption | (simp [Value.oneCell']; done))); (· (repeat constructor)); (· (repeat constructor)); (· (repeat constructor)); clear hS; intro ws hS
      refine hK.out _ _ (by first | exact ((hS.sx0.cons hS (by (repeat constructor))).cons hS (by (repeat constructor))) | exact Sx.le (by assumption) ((hS.sx0.cons hS (by (repeat constructor))).cons hS (by (repeat constructor)))) (fun hHeld => ?_)
      clear hK K
      try simp only [Act.put, nz1, nz2, nz3]
      refine wpAnyH_ready (rs := [3]) (by kernel_rfl) (by simp) ?_
      refine consL 3 rfl (fun K hK => ?_) AllReadyH.nil
      (with_reducible apply s_stores hS); (· exact rowT70); (· exact rfl); (· exact rfl); (· exact rfl); (· (first | assumption | (simp [Value.oneCell']; done))); (· (repeat constructor)); (· (repeat constructor)); (· (repeat constructor)); clear hS; intro ws hS
      refine hK.out _ _ (by first | exact ((hS.sx0.cons hS (by (repeat constructor))).cons hS (by (repeat constructor))) | exact Sx.le (by assumption) ((hS.sx0.cons hS (by (repeat constructor))).cons hS (by (repeat constructor)))) (fun hHeld => ?_)
      clear hK K
      try simp only [Act.put, nz1, nz2, nz3]
      focus (refine takeN 4 (v := ?_) rfl (by kernel_rfl) ?_ ?_; rotate_left; focus (intro w hSw; clear hSw; go_simp; try with_reducible rfl))
      try simp only [Act.put, nz1, nz2, nz3]
      refine wpAnyH_done (by kernel_rfl) ?_ _
      refine NoPanic.normal ?_
      all_goals
        go_wp2_with (first
    | ((with_reducible refine' Wl.out ?_; apply wl_box (ty := 44) (y := (.tmp 0)) hS); (· (first | (go_simp; done) | (go_simp; with_reducible rfl))); (· exact rfl); clear hS; intro w3 b3 hS)
    | ((with_reducible refine' Wl.out ?_; apply wl_box (ty := 70) (y := (.tmp 1)) hS); (· (first | (go_simp; done) | (go_simp; with_reducible rfl))); (· exact rfl); clear hS; intro w4 b4 hS)
    | ((with_reducible refine' Wl.out ?_; apply wl_alloc (ty := 44) (dst := some 6) hS (.agg #[.slice none 0 0, .slice none 0 0, .int .i64 0, .bool false]) [.slice none 0 0, .slice none 0 0, .int .i64 0, .bool false]); (· kernel_rfl); (· rfl); clear hS; intro w6 b6 hS)
    | ((with_reducible refine' Wl.out ?_; apply wl_alloc (ty := 70) (dst := some 7) hS (.agg #[.int .i64 0, .int .i64 0, .int .i64 0, .int .i64 0, .int .i64 0]) [.int .i64 0, .int .i64 0, .int .i64 0, .int .i64 0, .int .i64 0]); (· kernel_rfl); (· rfl); clear hS; intro w7 b7 hS)
    | ((with_reducible refine' Wl.out ?_; apply wl_alloc (ty := 118) (dst := some 12) hS (.agg #[.int .i64 0, .int .i64 0, .slice none 0 0]) [.int .i64 0, .int .i64 0, .slice none 0 0]); (· kernel_rfl); (· rfl); clear hS; intro w12 b12 hS)
    | ((with_reducible refine' Wl.out ?_; apply wl_load hS); (· (first | exact Try.underlying2 | exact Try.underlying3)); (· exact rfl); (· exact rfl); (· (first | (apply Find.box; (· (repeat constructor)); rfl) | exact Find.mem (by assumption) | (apply Find.row; (· (repeat constructor)); assumption))))
    | ((with_reducible refine' Wl.out ?_; apply wg_load hS); (· (first | exact Try.underlying2 | exact Try.underlying3)); (· exact rfl); (· (first | rfl | (go_simp; done))); (· exact rfl); (· (first | (apply Find.box; (· (repeat constructor)); rfl) | exact Find.mem (by assumption) | (apply Find.row; (· (repeat constructor)); assumption))))
    | ((with_reducible refine' Wl.out ?_; apply wl_loads hS); (· (first | exact rowT44 | exact rowT70 | exact rowT118)); (· exact rfl); (· (first | (apply Finds.box; (· (repeat constructor)); (· (repeat constructor)); done) | (refine Finds.mem2 (by assumption) ?_; first | rfl | assumption | (simp; done)) | (apply Finds.row; (· (repeat constructor)); (· assumption); (· rfl)))))
    | ((with_reducible refine' Wl.out ?_; apply wg_loads hS); (· (first | exact rowT44 | exact rowT70 | exact rowT118)); (· (first | rfl | (go_simp; done))); (· exact rfl); (· (first | (apply Finds.box; (· (repeat constructor)); (· (repeat constructor)); done) | (refine Finds.mem2 (by assumption) ?_; first | rfl | assumption | (simp; done)) | (apply Finds.row; (· (repeat constructor)); (· assumption); (· rfl)))))
    | ((with_reducible refine' Wl.out ?_); (with_reducible refine' wg_case ?_ ?_) <;> (intro hgW; (try (have hg2 := hgW; simp [go_sem] at hg2)); (first | (exfalso; assumption) | ((with_reducible refine' Wl.out ?_; apply wl_unwanted); (· exact hgW)) | ((with_reducible refine' Wl.out ?_; apply wg_load hS); (· (first | exact Try.underlying2 | exact Try.underlying3)); (· exact rfl); (· exact hgW); (· exact rfl); (· (first | (apply Find.box; (· (repeat constructor)); rfl) | exact Find.mem (by assumption) | (apply Find.row; (· (repeat constructor)); assumption)))) | ((with_reducible refine' Wl.out ?_; apply wg_loads hS); (· (first | exact rowT44 | exact rowT70 | exact rowT118)); (· exact hgW); (· exact rfl); (· (first | (apply Finds.box; (· (repeat constructor)); (· (repeat constructor)); done) | (refine Finds.mem2 (by assumption) ?_; first | rfl | assumption | (simp; done)) | (apply Finds.row; (· (repeat constructor)); (· assumption); (· rfl)))))); clear hgW))
    | ((with_reducible refine' Wl.out ?_; apply wl_store hS); (· (first | exact rowT2 | exact rowT3)); (· exact rfl); (· (first | (go_simp; done) | (go_simp; with_reducible rfl))); (· (first | rfl | assumption | (simp [Value.oneCell']; done))); (· (repeat constructor)); (· (repeat constructor)); (· (repeat constructor)); clear hS; intro ws hS)
    | ((with_reducible refine' Wl.out ?_; apply wl_storeR hS); (· (first | exact rowT2 | exact rowT3)); (· exact rfl); (· (first | (go_simp; done) | (go_simp; with_reducible rfl))); (· (first | rfl | assumption | (simp [Value.oneCell']; done))); (· (repeat constructor)); (· (first | assumption | omega | (simp; omega))); clear hS; intro ws hS)
    | ((with_reducible refine' Wl.out ?_; apply wl_stores hS); (· (first | exact rowT44 | exact rowT70 | exact rowT118)); (· exact rfl); (· exact rfl); (· exact rfl); (· (first | assumption | (simp [Value.oneCell']; done))); (· (repeat constructor)); (· (repeat constructor)); (· (repeat constructor)); clear hS; intro ws hS))
        have he := HE0.out
        refine ret_cells2 (n := 4) (k := 5) rfl rfl rfl hS (by (repeat constructor)) (by (repeat constructor)) rfl rfl dkRow lgRow rfl ?_
        rw [app_end3 HE.out HP.out (HR.out.symm.trans HR2.out) (by rw [← HE107.out]; exact he), ← HD107.out]
        exact ⟨_, _, rfl, ⟨_, rfl, R107.out⟩, hS.done⟩
end Go.Proofs.Ytnmgiiaejpaeeaa
/- Contract of journal.Append for the empty text. -/
namespace Go.Proofs.Ytnmgiiaejpaeeaa
set_option linter.unusedVariables false
set_option linter.unusedSimpArgs false
open Go.RowKit Go.Shelf
set_option maxRecDepth 100000 in
set_option maxHeartbeats 8000000 in
theorem jappend_0 (m : Mem) (w : World) (hm : m.In w) (cs : List Value) (d : Dk) (hd : dkL.rd m cs d) (b s g p n : Int) (vt : Value) (ht : bytesL.rd m [vt] []) (h0 : app0 d ⟨b, s, g, p, n⟩ 0 = 0) :
    Calls Try.prog 54 #[.agg cs.toArray, .agg ([.int .i64 b, .int .i64 s, .int .i64 g, .int .i64 p, .int .i64 n] : List Value).toArray, vt] w (RetDLE w m (appR d ⟨b, s, g, p, n⟩ [])) := by
  obtain ⟨p0, c0, q0, a0, rfl, A0⟩ := dkL_cells hd
  have A1 := Lib.hid ht
  obtain ⟨pt, ct, rfl, o1, o2, o3, o4⟩ := Lay.list_open ht
  rw [show ([] : List Int).length = 0 from rfl] at A1 ⊢
  have hS := St.start hm
  obtain ⟨h1, h2, h3, h4, h5⟩ := app_zero h0
  have HP : Hid (needN 0 = ((1 : Nat) : Int)) := by show _ = _; decide
  have hP := HP.out
  have HE := Lib.hid h0
  have CE : Hid (checkE d = 0) := if_pos h1
  have GE : Hid (lcheckE ⟨b, s, g, p, n⟩ = 0) := if_pos h2
  have HG := Lib.hid h2
  obtain ⟨j1, j2, j3, j4, j5, j6, j7, j8, j9, j10⟩ := h2
  simp only at j1 j2 j3 j4 j5 j6 j7 j8 j9 j10 h5
  rw [hP] at h5
  have NE : Hid (needE 0 = 0) := if_neg h3
  have TB := Lib.hid h4
  have h6 : 1 ≤ s - p := by omega
  have h7 : (n == 262144) = false := by simp; omega
  simp only [maxLen] at o2
  have hm0 : min (11 : Int) 0 = 0 := by decide
  have hc0 : ct ≤ maxLen := by simp only [maxLen]; omega
  have HR0 : ∀ (m' : Mem) (q : Option Addr) (c : Nat), c ≤ maxLen → bytesL.rd m' [.slice q 0 c] [] := fun m' q c hc => ⟨q, c, rfl, Nat.zero_le _, hc, by simp, Row.nil _ _ _⟩
  have HR1 := Lib.hid HR0
  have hway : (pt = none ∧ ct = 0) ∨ (pt = none ∧ ct ≠ 0) ∨ ((∃ a, pt = some a) ∧ ct = 0) ∨ ((∃ a, pt = some a) ∧ ct ≠ 0) := by
    cases pt <;> by_cases h : ct = 0 <;> simp [h]
  clear hd ht o1 o3 o4 h0 hP h4 h5 HR0 A1
  rcases hway with ⟨rfl, rfl⟩ | ⟨rfl, y1⟩ | ⟨⟨pa, rfl⟩, rfl⟩ | ⟨⟨pa, rfl⟩, y1⟩
  all_goals
    go_enter Try.func54, Try.ntmps54
    go_wp2_with (first
    | ((with_reducible refine' Wl.out ?_; apply wl_box (ty := 44) (y := (.tmp 0)) hS); (· (first | (go_simp; done) | (go_simp; with_reducible rfl))); (· exact rfl); clear hS; intro w3 b3 hS)
    | ((with_reducible refine' Wl.out ?_; apply wl_box (ty := 70) (y := (.tmp 1)) hS); (· (first | (go_simp; done) | (go_simp; with_reducible rfl))); (· exact rfl); clear hS; intro w4 b4 hS)
    | ((with_reducible refine' Wl.out ?_; apply wl_alloc (ty := 44) (dst := some 6) hS (.agg #[.slice none 0 0, .slice none 0 0, .int .i64 0, .bool false]) [.slice none 0 0, .slice none 0 0, .int .i64 0, .bool false]); (· kernel_rfl); (· rfl); clear hS; intro w6 b6 hS)
    | ((with_reducible refine' Wl.out ?_; apply wl_alloc (ty := 70) (dst := some 7) hS (.agg #[.int .i64 0, .int .i64 0, .int .i64 0, .int .i64 0, .int .i64 0]) [.int .i64 0, .int .i64 0, .int .i64 0, .int .i64 0, .int .i64 0]); (· kernel_rfl); (· rfl); clear hS; intro w7 b7 hS)
    | ((with_reducible refine' Wl.out ?_; apply wl_alloc (ty := 118) (dst := some 12) hS (.agg #[.int .i64 0, .int .i64 0, .slice none 0 0]) [.int .i64 0, .int .i64 0, .slice none 0 0]); (· kernel_rfl); (· rfl); clear hS; intro w12 b12 hS)
    | ((with_reducible refine' Wl.out ?_; apply wl_load hS); (· (first | exact Try.underlying2 | exact Try.underlying3)); (· exact rfl); (· exact rfl); (· (first | (apply Find.box; (· (repeat constructor)); rfl) | exact Find.mem (by assumption) | (apply Find.row; (· (repeat constructor)); assumption))))
    | ((with_reducible refine' Wl.out ?_; apply wg_load hS); (· (first | exact Try.underlying2 | exact Try.underlying3)); (· exact rfl); (· (first | rfl | (go_simp; done))); (· exact rfl); (· (first | (apply Find.box; (· (repeat constructor)); rfl) | exact Find.mem (by assumption) | (apply Find.row; (· (repeat constructor)); assumption))))
    | ((with_reducible refine' Wl.out ?_; apply wl_loads hS); (· (first | exact rowT44 | exact rowT70 | exact rowT118)); (· exact rfl); (· (first | (apply Finds.box; (· (repeat constructor)); (· (repeat constructor)); done) | (refine Finds.mem2 (by assumption) ?_; first | rfl | assumption | (simp; done)) | (apply Finds.row; (· (repeat constructor)); (· assumption); (· rfl)))))
    | ((with_reducible refine' Wl.out ?_; apply wg_loads hS); (· (first | exact rowT44 | exact rowT70 | exact rowT118)); (· (first | rfl | (go_simp; done))); (· exact rfl); (· (first | (apply Finds.box; (· (repeat constructor)); (· (repeat constructor)); done) | (refine Finds.mem2 (by assumption) ?_; first | rfl | assumption | (simp; done)) | (apply Finds.row; (· (repeat constructor)); (· assumption); (· rfl)))))
    | ((with_reducible refine' Wl.out ?_); (with_reducible refine' wg_case ?_ ?_) <;> (intro hgW; (try (have hg2 := hgW; simp [go_sem] at hg2)); (first | (exfalso; assumption) | ((with_reducible refine' Wl.out ?_; apply wl_unwanted); (· exact hgW)) | ((with_reducible refine' Wl.out ?_; apply wg_load hS); (· (first | exact Try.underlying2 | exact Try.underlying3)); (· exact rfl); (· exact hgW); (· exact rfl); (· (first | (apply Find.box; (· (repeat constructor)); rfl) | exact Find.mem (by assumption) | (apply Find.row; (· (repeat constructor)); assumption)))) | ((with_reducible refine' Wl.out ?_; apply wg_loads hS); (· (first | exact rowT44 | exact rowT70 | exact rowT118)); (· exact hgW); (· exact rfl); (· (first | (apply Finds.box; (· (repeat constructor)); (· (repeat constructor)); done) | (refine Finds.mem2 (by assumption) ?_; first | rfl | assumption | (simp; done)) | (apply Finds.row; (· (repeat constructor)); (· assumption); (· rfl)))))); clear hgW))
    | ((with_reducible refine' Wl.out ?_; apply wl_store hS); (· (first | exact rowT2 | exact rowT3)); (· exact rfl); (· (first | (go_simp; done) | (go_simp; with_reducible rfl))); (· (first | rfl | assumption | (simp [Value.oneCell']; done))); (· (repeat constructor)); (· (repeat constructor)); (· (repeat constructor)); clear hS; intro ws hS)
    | ((with_reducible refine' Wl.out ?_; apply wl_storeR hS); (· (first | exact rowT2 | exact rowT3)); (· exact rfl); (· (first | (go_simp; done) | (go_simp; with_reducible rfl))); (· (first | rfl | assumption | (simp [Value.oneCell']; done))); (· (repeat constructor)); (· (first | assumption | omega | (simp; omega))); clear hS; intro ws hS)
    | ((with_reducible refine' Wl.out ?_; apply wl_stores hS); (· (first | exact rowT44 | exact rowT70 | exact rowT118)); (· exact rfl); (· exact rfl); (· exact rfl); (· (first | assumption | (simp [Value.oneCell']; done))); (· (repeat constructor)); (· (repeat constructor)); (· (repeat constructor)); clear hS; intro ws hS)
    | (go_at_call 40; (fail_if_success (clear Mk16)); refine (letInt (check_c _ _ hS.inw _ _ (by first | exact A0.out | exact A1.out | exact A2.out | exact R96.out | exact R107.out | exact dkL_dry A0.out | exact dkL_dry A1.out | exact dkL_dry A2.out | exact dkL_dry R96.out | exact dkL_dry R107.out | exact Lay.nil_rd _ _))).mono ?_; rintro e' w16 ⟨_, m16, rfl, ⟨E16, HE16, rfl⟩, hk⟩; replace hS := hS.call hk; (try replace A0 := Lib.hid (Lay.mono _ hk.le A0.out)); (try replace A1 := Lib.hid (Lay.mono _ hk.le A1.out)); (try replace A2 := Lib.hid (Lay.mono _ hk.le A2.out)); (try replace R96 := Lib.hid (Lay.mono _ hk.le R96.out)); (try replace R107 := Lib.hid (Lay.mono _ hk.le R107.out)); clear hk; replace HE16 := Lib.hid (HE16.out.trans CE.out); obtain rfl := HE16.out; have Mk16 := True.intro)
    | (go_at_call 63; (fail_if_success (clear Mk20)); refine (letInt (jcheck_v _ _ hS.inw _ _ _ _ _)).mono ?_; rintro e' w20 ⟨_, m20, rfl, ⟨E20, HE20, rfl⟩, hk⟩; replace hS := hS.call hk; (try replace A0 := Lib.hid (Lay.mono _ hk.le A0.out)); (try replace A1 := Lib.hid (Lay.mono _ hk.le A1.out)); (try replace A2 := Lib.hid (Lay.mono _ hk.le A2.out)); (try replace R96 := Lib.hid (Lay.mono _ hk.le R96.out)); (try replace R107 := Lib.hid (Lay.mono _ hk.le R107.out)); clear hk; replace HE20 := Lib.hid (HE20.out.trans GE.out); obtain rfl := HE20.out; have Mk20 := True.intro)
    | (go_at_call 58; (fail_if_success (clear Mk27)); refine (letII (jneed_c _ _ hS.inw _ _ _ (by omega))).mono ?_; rintro e' w27 ⟨_, m27, rfl, ⟨N27, E27, HN27, HE27, rfl⟩, hk⟩; replace hS := hS.call hk; (try replace A0 := Lib.hid (Lay.mono _ hk.le A0.out)); (try replace A1 := Lib.hid (Lay.mono _ hk.le A1.out)); (try replace A2 := Lib.hid (Lay.mono _ hk.le A2.out)); (try replace R96 := Lib.hid (Lay.mono _ hk.le R96.out)); (try replace R107 := Lib.hid (Lay.mono _ hk.le R107.out)); clear hk; replace HE27 := Lib.hid (HE27.out.trans NE.out); obtain rfl := HE27.out; replace HN27 := Lib.hid (HN27.out.trans HP.out); obtain rfl := HN27.out; have Mk27 := True.intro)
    | (go_at_call 87; (fail_if_success (clear Mk39)); refine (letB (there_c _ _ hS.inw _ _ (by first | exact A0.out | exact A1.out | exact A2.out | exact R96.out | exact R107.out | exact dkL_dry A0.out | exact dkL_dry A1.out | exact dkL_dry A2.out | exact dkL_dry R96.out | exact dkL_dry R107.out | exact Lay.nil_rd _ _) _ _ _ _ _)).mono ?_; rintro e' w39 ⟨_, m39, rfl, ⟨B39, HB39, rfl⟩, hk⟩; replace hS := hS.call hk; (try replace A0 := Lib.hid (Lay.mono _ hk.le A0.out)); (try replace A1 := Lib.hid (Lay.mono _ hk.le A1.out)); (try replace A2 := Lib.hid (Lay.mono _ hk.le A2.out)); (try replace R96 := Lib.hid (Lay.mono _ hk.le R96.out)); (try replace R107 := Lib.hid (Lay.mono _ hk.le R107.out)); clear hk; replace HB39 := Lib.hid (HB39.out.trans TB.out); obtain rfl := HB39.out; have Mk39 := True.intro))
    obtain ⟨R, hR⟩ : ∃ R, R = appGo ⟨b, s, g, p, n⟩ [] 1 1 0 d := ⟨_, rfl⟩
    have HR := Lib.hid hR
    clear hR
    go_loopw [59] (fun i wr => ∃ (k : Nat) (D : Dk) (pd qd : Option Addr) (cd ad : Nat) (m' : Mem), k ≤ 1 ∧ i = .int .i64 k ∧ Hid (appGo ⟨b, s, g, p, n⟩ [] 1 (1 - k) k D = R) ∧ Hid (dkL.rd m' [.slice pd D.dry.length cd, .slice qd D.wet.length ad, .int .i64 D.fuse, .bool D.dead] D) ∧
      St [] w m wr [.box b7 [.int .i64 0, .int .i64 0, .int .i64 0, .int .i64 0, .int .i64 0], .box b6 [.slice none 0 0, .slice none 0 0, .int .i64 0, .bool false], .box b4 [.int .i64 b, .int .i64 s, .int .i64 g, .int .i64 p, .int .i64 n], .box b3 [.slice pd D.dry.length cd, .slice qd D.wet.length ad, .int .i64 D.fuse, .bool D.dead]] m') (fun i _ => 1 - (intOf i).toNat)
    case atStart => exact ⟨0, d, _, _, _, _, _, Nat.zero_le _, rfl, HR.out.symm, A0, hS⟩
    case round =>
      clear hS A0
      obtain ⟨k, D, pd, qd, cd, ad, m', hk, rfl, HGO, A2, hS⟩ := hrel
      by_cases hlt : k < 1
      · obtain rfl : k = 0 := by omega
        go_wp2_with (first
    | ((with_reducible refine' Wl.out ?_; apply wl_box (ty := 44) (y := (.tmp 0)) hS); (· (first | (go_simp; done) | (go_simp; with_reducible rfl))); (· exact rfl); clear hS; intro w3 b3 hS)
    | ((with_reducible refine' Wl.out ?_; apply wl_box (ty := 70) (y := (.tmp 1)) hS); (· (first | (go_simp; done) | (go_simp; with_reducible rfl))); (· exact rfl); clear hS; intro w4 b4 hS)
    | ((with_reducible refine' Wl.out ?_; apply wl_alloc (ty := 44) (dst := some 6) hS (.agg #[.slice none 0 0, .slice none 0 0, .int .i64 0, .bool false]) [.slice none 0 0, .slice none 0 0, .int .i64 0, .bool false]); (· kernel_rfl); (· rfl); clear hS; intro w6 b6 hS)
    | ((with_reducible refine' Wl.out ?_; apply wl_alloc (ty := 70) (dst := some 7) hS (.agg #[.int .i64 0, .int .i64 0, .int .i64 0, .int .i64 0, .int .i64 0]) [.int .i64 0, .int .i64 0, .int .i64 0, .int .i64 0, .int .i64 0]); (· kernel_rfl); (· rfl); clear hS; intro w7 b7 hS)
    | ((with_reducible refine' Wl.out ?_; apply wl_alloc (ty := 118) (dst := some 12) hS (.agg #[.int .i64 0, .int .i64 0, .slice none 0 0]) [.int .i64 0, .int .i64 0, .slice none 0 0]); (· kernel_rfl); (· rfl); clear hS; intro w12 b12 hS)
    | ((with_reducible refine' Wl.out ?_; apply wl_load hS); (· (first | exact Try.underlying2 | exact Try.underlying3)); (· exact rfl); (· exact rfl); (· (first | (apply Find.box; (· (repeat constructor)); rfl) | exact Find.mem (by assumption) | (apply Find.row; (· (repeat constructor)); assumption))))
    | ((with_reducible refine' Wl.out ?_; apply wg_load hS); (· (first | exact Try.underlying2 | exact Try.underlying3)); (· exact rfl); (· (first | rfl | (go_simp; done))); (· exact rfl); (· (first | (apply Find.box; (· (repeat constructor)); rfl) | exact Find.mem (by assumption) | (apply Find.row; (· (repeat constructor)); assumption))))
    | ((with_reducible refine' Wl.out ?_; apply wl_loads hS); (· (first | exact rowT44 | exact rowT70 | exact rowT118)); (· exact rfl); (· (first | (apply Finds.box; (· (repeat constructor)); (· (repeat constructor)); done) | (refine Finds.mem2 (by assumption) ?_; first | rfl | assumption | (simp; done)) | (apply Finds.row; (· (repeat constructor)); (· assumption); (· rfl)))))
    | ((with_reducible refine' Wl.out ?_; apply wg_loads hS); (· (first | exact rowT44 | exact rowT70 | exact rowT118)); (· (first | rfl | (go_simp; done))); (· exact rfl); (· (first | (apply Finds.box; (· (repeat constructor)); (· (repeat constructor)); done) | (refine Finds.mem2 (by assumption) ?_; first | rfl | assumption | (simp; done)) | (apply Finds.row; (· (repeat constructor)); (· assumption); (· rfl)))))
    | ((with_reducible refine' Wl.out ?_); (with_reducible refine' wg_case ?_ ?_) <;> (intro hgW; (try (have hg2 := hgW; simp [go_sem] at hg2)); (first | (exfalso; assumption) | ((with_reducible refine' Wl.out ?_; apply wl_unwanted); (· exact hgW)) | ((with_reducible refine' Wl.out ?_; apply wg_load hS); (· (first | exact Try.underlying2 | exact Try.underlying3)); (· exact rfl); (· exact hgW); (· exact rfl); (· (first | (apply Find.box; (· (repeat constructor)); rfl) | exact Find.mem (by assumption) | (apply Find.row; (· (repeat constructor)); assumption)))) | ((with_reducible refine' Wl.out ?_; apply wg_loads hS); (· (first | exact rowT44 | exact rowT70 | exact rowT118)); (· exact hgW); (· exact rfl); (· (first | (apply Finds.box; (· (repeat constructor)); (· (repeat constructor)); done) | (refine Finds.mem2 (by assumption) ?_; first | rfl | assumption | (simp; done)) | (apply Finds.row; (· (repeat constructor)); (· assumption); (· rfl)))))); clear hgW))
    | ((with_reducible refine' Wl.out ?_; apply wl_store hS); (· (first | exact rowT2 | exact rowT3)); (· exact rfl); (· (first | (go_simp; done) | (go_simp; with_reducible rfl))); (· (first | rfl | assumption | (simp [Value.oneCell']; done))); (· (repeat constructor)); (· (repeat constructor)); (· (repeat constructor)); clear hS; intro ws hS)
    | ((with_reducible refine' Wl.out ?_; apply wl_storeR hS); (· (first | exact rowT2 | exact rowT3)); (· exact rfl); (· (first | (go_simp; done) | (go_simp; with_reducible rfl))); (· (first | rfl | assumption | (simp [Value.oneCell']; done))); (· (repeat constructor)); (· (first | assumption | omega | (simp; omega))); clear hS; intro ws hS)
    | ((with_reducible refine' Wl.out ?_; apply wl_stores hS); (· (first | exact rowT44 | exact rowT70 | exact rowT118)); (· exact rfl); (· exact rfl); (· exact rfl); (· (first | assumption | (simp [Value.oneCell']; done))); (· (repeat constructor)); (· (repeat constructor)); (· (repeat constructor)); clear hS; intro ws hS)
          | (go_at_call 88; refine (letBE (pseal_c _ _ hS.inw 0 1 _ [] (HR1.out _ _ _ (by first | decide | omega)) _ _ _ _ _ HG.out (by decide) (by decide) (by decide))).mono ?_; rintro e' w78 ⟨_, m78, rfl, ⟨p78, c78, Y78, E78, HY78, HE78, rfl, R78, C78⟩, hk78⟩; replace hS := hS.call hk78; have hk := hk78; (try replace A2 := Lib.hid (Lay.mono _ hk.le A2.out)); clear hk hk78; obtain rfl := HE78.out)
          | (go_at_call 35; refine (letDE (write_c _ _ hS.inw _ _ A2.out _ (inK64 (by omega) (by omega)) _ _ R78.out)).mono ?_; rintro e' w96 ⟨_, m96, rfl, ⟨p96, c96, q96, a96, D96, E96, HD96, HE96, rfl, R96⟩, hk96⟩; replace hS := hS.call hk96; have hk := hk96; (try replace A2 := Lib.hid (Lay.mono _ hk.le A2.out)); clear hk hk96))
        · have hst := appGo_step (g := ⟨b, s, g, p, n⟩) (text := []) (parts := 1) (n := 1) (i := 0) (d := D) (D := D96) (e := E96) (by decide) (HD96.out.trans (by rw [HY78.out]; simp [chunkOf])) (HE96.out.trans (by rw [HY78.out]; simp [chunkOf]))
          have he : E96 ≠ 0 := by simp_all
          have hR2 : R = (D96, E96) := HGO.out.symm.trans (hst.2 he)
          refine ret_cells2 (n := 4) (k := 5) rfl rfl rfl hS (by (repeat constructor)) (by (repeat constructor)) rfl rfl dkRow lgRow rfl ?_
          rw [app_end1 (text := []) (P := 1) HE.out HP.out (HR.out.symm.trans hR2) he]
          exact ⟨_, _, rfl, ⟨_, rfl, R96.out⟩, hS.done⟩
        · have hst := appGo_step (g := ⟨b, s, g, p, n⟩) (text := []) (parts := 1) (n := 1) (i := 0) (d := D) (D := D96) (e := E96) (by decide) (HD96.out.trans (by rw [HY78.out]; simp [chunkOf])) (HE96.out.trans (by rw [HY78.out]; simp [chunkOf]))
          have he : E96 = 0 := by simp_all
          have HGO2 := Lib.hid ((hst.1 he).symm.trans HGO.out)
          clear hst
          go_roundw
          case rel => exact ⟨1, D96, _, _, _, _, _, Nat.le_refl _, rfl, HGO2, R96, hS.forget (x := .box b12 _) (by (repeat constructor))⟩
          case measure => first | (simp [intOf]; done) | (simp [intOf]; omega)
      · obtain rfl : k = 1 := by omega
        have hR2 : R = (D, 0) := by have := HGO.out; rw [Nat.sub_self] at this; exact this.symm
        have HR2 := Lib.hid hR2
        clear hR2 HGO
        go_wp2_with (first
    | ((with_reducible refine' Wl.out ?_; apply wl_box (ty := 44) (y := (.tmp 0)) hS); (· (first | (go_simp; done) | (go_simp; with_reducible rfl))); (· exact rfl); clear hS; intro w3 b3 hS)
    | ((with_reducible refine' Wl.out ?_; apply wl_box (ty := 70) (y := (.tmp 1)) hS); (· (first | (go_simp; done) | (go_simp; with_reducible rfl))); (· exact rfl); clear hS; intro w4 b4 hS)
    | ((with_reducible refine' Wl.out ?_; apply wl_alloc (ty := 44) (dst := some 6) hS (.agg #[.slice none 0 0, .slice none 0 0, .int .i64 0, .bool false]) [.slice none 0 0, .slice none 0 0, .int .i64 0, .bool false]); (· kernel_rfl); (· rfl); clear hS; intro w6 b6 hS)
    | ((with_reducible refine' Wl.out ?_; apply wl_alloc (ty := 70) (dst := some 7) hS (.agg #[.int .i64 0, .int .i64 0, .int .i64 0, .int .i64 0, .int .i64 0]) [.int .i64 0, .int .i64 0, .int .i64 0, .int .i64 0, .int .i64 0]); (· kernel_rfl); (· rfl); clear hS; intro w7 b7 hS)
    | ((with_reducible refine' Wl.out ?_; apply wl_alloc (ty := 118) (dst := some 12) hS (.agg #[.int .i64 0, .int .i64 0, .slice none 0 0]) [.int .i64 0, .int .i64 0, .slice none 0 0]); (· kernel_rfl); (· rfl); clear hS; intro w12 b12 hS)
    | ((with_reducible refine' Wl.out ?_; apply wl_load hS); (· (first | exact Try.underlying2 | exact Try.underlying3)); (· exact rfl); (· exact rfl); (· (first | (apply Find.box; (· (repeat constructor)); rfl) | exact Find.mem (by assumption) | (apply Find.row; (· (repeat constructor)); assumption))))
    | ((with_reducible refine' Wl.out ?_; apply wg_load hS); (· (first | exact Try.underlying2 | exact Try.underlying3)); (· exact rfl); (· (first | rfl | (go_simp; done))); (· exact rfl); (· (first | (apply Find.box; (· (repeat constructor)); rfl) | exact Find.mem (by assumption) | (apply Find.row; (· (repeat constructor)); assumption))))
    | ((with_reducible refine' Wl.out ?_; apply wl_loads hS); (· (first | exact rowT44 | exact rowT70 | exact rowT118)); (· exact rfl); (· (first | (apply Finds.box; (· (repeat constructor)); (· (repeat constructor)); done) | (refine Finds.mem2 (by assumption) ?_; first | rfl | assumption | (simp; done)) | (apply Finds.row; (· (repeat constructor)); (· assumption); (· rfl)))))
    | ((with_reducible refine' Wl.out ?_; apply wg_loads hS); (· (first | exact rowT44 | exact rowT70 | exact rowT118)); (· (first | rfl | (go_simp; done))); (· exact rfl); (· (first | (apply Finds.box; (· (repeat constructor)); (· (repeat constructor)); done) | (refine Finds.mem2 (by assumption) ?_; first | rfl | assumption | (simp; done)) | (apply Finds.row; (· (repeat constructor)); (· assumption); (· rfl)))))
    | ((with_reducible refine' Wl.out ?_); (with_reducible refine' wg_case ?_ ?_) <;> (intro hgW; (try (have hg2 := hgW; simp [go_sem] at hg2)); (first | (exfalso; assumption) | ((with_reducible refine' Wl.out ?_; apply wl_unwanted); (· exact hgW)) | ((with_reducible refine' Wl.out ?_; apply wg_load hS); (· (first | exact Try.underlying2 | exact Try.underlying3)); (· exact rfl); (· exact hgW); (· exact rfl); (· (first | (apply Find.box; (· (repeat constructor)); rfl) | exact Find.mem (by assumption) | (apply Find.row; (· (repeat constructor)); assumption)))) | ((with_reducible refine' Wl.out ?_; apply wg_loads hS); (· (first | exact rowT44 | exact rowT70 | exact rowT118)); (· exact hgW); (· exact rfl); (· (first | (apply Finds.box; (· (repeat constructor)); (· (repeat constructor)); done) | (refine Finds.mem2 (by assumption) ?_; first | rfl | assumption | (simp; done)) | (apply Finds.row; (· (repeat constructor)); (· assumption); (· rfl)))))); clear hgW))
    | ((with_reducible refine' Wl.out ?_; apply wl_store hS); (· (first | exact rowT2 | exact rowT3)); (· exact rfl); (· (first | (go_simp; done) | (go_simp; with_reducible rfl))); (· (first | rfl | assumption | (simp [Value.oneCell']; done))); (· (repeat constructor)); (· (repeat constructor)); (· (repeat constructor)); clear hS; intro ws hS)
    | ((with_reducible refine' Wl.out ?_; apply wl_storeR hS); (· (first | exact rowT2 | exact rowT3)); (· exact rfl); (· (first | (go_simp; done) | (go_simp; with_reducible rfl))); (· (first | rfl | assumption | (simp [Value.oneCell']; done))); (· (repeat constructor)); (· (first | assumption | omega | (simp; omega))); clear hS; intro ws hS)
    | ((with_reducible refine' Wl.out ?_; apply wl_stores hS); (· (first | exact rowT44 | exact rowT70 | exact rowT118)); (· exact rfl); (· exact rfl); (· exact rfl); (· (first | assumption | (simp [Value.oneCell']; done))); (· (repeat constructor)); (· (repeat constructor)); (· (repeat constructor)); clear hS; intro ws hS)
    | (go_at_call 37; (fail_if_success (clear Mk107)); refine (letDE (flush_c _ _ hS.inw _ _ (by first | exact A0.out | exact A1.out | exact A2.out | exact R96.out | exact R107.out | exact dkL_dry A0.out | exact dkL_dry A1.out | exact dkL_dry A2.out | exact dkL_dry R96.out | exact dkL_dry R107.out | exact Lay.nil_rd _ _))).mono ?_; rintro e' w107 ⟨_, m107, rfl, ⟨p107, c107, q107, a107, D107, E107, HD107, HE107, rfl, R107⟩, hk⟩; replace hS := hS.call hk; (try replace A0 := Lib.hid (Lay.mono _ hk.le A0.out)); (try replace A1 := Lib.hid (Lay.mono _ hk.le A1.out)); (try replace A2 := Lib.hid (Lay.mono _ hk.le A2.out)); (try replace R96 := Lib.hid (Lay.mono _ hk.le R96.out)); (try replace R107 := Lib.hid (Lay.mono _ hk.le R107.out)); clear hk; have Mk107 := True.intro))
        · have he : E107 ≠ 0 := by simp_all
          refine ret_cells2 (n := 4) (k := 5) rfl rfl rfl hS (by (repeat constructor)) (by (repeat constructor)) rfl rfl dkRow lgRow rfl ?_
          rw [app_end2 (text := []) (P := 1) HE.out HP.out (HR.out.symm.trans HR2.out) (by rw [← HE107.out]; exact he), ← HD107.out, ← HE107.out]
          exact ⟨_, _, rfl, ⟨_, rfl, R107.out⟩, hS.done⟩
        have he : E107 = 0 := by simp_all
        have HE0 := Lib.hid he
        clear he
        replace hS := hS.drew
        refine startL (S := Sx _ [(b3, _), (b4, _)]) (by kernel_rfl) ((hS.sx0.cons hS (by (repeat constructor))).cons hS (by (repeat constructor))) (fun _ _ _ _ => trivial) (fun hHeld => ?_)
        refine takeN 0 rfl (by kernel_rfl) (yield_loads rfl rowT44 rfl (by (first | (apply FindsX.box; (· (repeat constructor)); (· (repeat constructor)); done) | (refine FindsX.mem (by assumption) ?_; first | rfl | assumption | (simp; done))))) ?_
        try simp only [Act.put, nz1, nz2, nz3]
        refine takeN 1 rfl (by kernel_rfl) (yield_loads rfl rowT70 rfl (by (first | (apply FindsX.box; (· (repeat constructor)); (· (repeat constructor)); done) | (refine FindsX.mem (by assumption) ?_; first | rfl | assumption | (simp; done))))) ?_
        try simp only [Act.put, nz1, nz2, nz3]
        refine wpAnyH_ready (rs := [2]) (by kernel_rfl) (by simp) ?_
        refine consL 2 rfl (fun K hK => ?_) AllReadyH.nil
        (with_reducible apply s_stores hS); (· exact rowT44); (· exact rfl); (· exact rfl); (· exact rfl); (· (first | assumption | (simp [Value.oneCell']; done))); (· (repeat constructor)); (· (repeat constructor)); (· (repeat constructor)); clear hS; intro ws hS
        refine hK.out _ _ (by first | exact ((hS.sx0.cons hS (by (repeat constructor))).cons hS (by (repeat constructor))) | exact Sx.le (by assumption) ((hS.sx0.cons hS (by (repeat constructor))).cons hS (by (repeat constructor)))) (fun hHeld => ?_)
        clear hK K
        try simp only [Act.put, nz1, nz2, nz3]
        refine wpAnyH_ready (rs := [3]) (by kernel_rfl) (by simp) ?_
        refine consL 3 rfl (fun K hK => ?_) AllReadyH.nil
        (with_reducible apply s_stores hS); (· exact rowT70); (· exact rfl); (· exact rfl); (· exact rfl); (· (first | assumption | (simp [Value.oneCell']; done))); (· (repeat constructor)); (· (repeat constructor)); (· (repeat constructor)); clear hS; intro ws hS
        refine hK.out _ _ (by first | exact ((hS.sx0.cons hS (by (repeat constructor))).cons hS (by (repeat constructor))) | exact Sx.le (by assumption) ((hS.sx0.cons hS (by (repeat constructor))).cons hS (by (repeat constructor)))) (fun hHeld => ?_)
        clear hK K
        try simp only [Act.put, nz1, nz2, nz3]
        focus (refine takeN 4 (v := ?_) rfl (by kernel_rfl) ?_ ?_; rotate_left; focus (intro w hSw; clear hSw; go_simp; try with_reducible rfl))
        try simp only [Act.put, nz1, nz2, nz3]
        refine wpAnyH_done (by kernel_rfl) ?_ _
        refine NoPanic.normal ?_
        all_goals
          go_wp2_with (first
    | ((with_reducible refine' Wl.out ?_; apply wl_box (ty := 44) (y := (.tmp 0)) hS); (· (first | (go_simp; done) | (go_simp; with_reducible rfl))); (· exact rfl); clear hS; intro w3 b3 hS)
    | ((with_reducible refine' Wl.out ?_; apply wl_box (ty := 70) (y := (.tmp 1)) hS); (· (first | (go_simp; done) | (go_simp; with_reducible rfl))); (· exact rfl); clear hS; intro w4 b4 hS)
    | ((with_reducible refine' Wl.out ?_; apply wl_alloc (ty := 44) (dst := some 6) hS (.agg #[.slice none 0 0, .slice none 0 0, .int .i64 0, .bool false]) [.slice none 0 0, .slice none 0 0, .int .i64 0, .bool false]); (· kernel_rfl); (· rfl); clear hS; intro w6 b6 hS)
    | ((with_reducible refine' Wl.out ?_; apply wl_alloc (ty := 70) (dst := some 7) hS (.agg #[.int .i64 0, .int .i64 0, .int .i64 0, .int .i64 0, .int .i64 0]) [.int .i64 0, .int .i64 0, .int .i64 0, .int .i64 0, .int .i64 0]); (· kernel_rfl); (· rfl); clear hS; intro w7 b7 hS)
    | ((with_reducible refine' Wl.out ?_; apply wl_alloc (ty := 118) (dst := some 12) hS (.agg #[.int .i64 0, .int .i64 0, .slice none 0 0]) [.int .i64 0, .int .i64 0, .slice none 0 0]); (· kernel_rfl); (· rfl); clear hS; intro w12 b12 hS)
    | ((with_reducible refine' Wl.out ?_; apply wl_load hS); (· (first | exact Try.underlying2 | exact Try.underlying3)); (· exact rfl); (· exact rfl); (· (first | (apply Find.box; (· (repeat constructor)); rfl) | exact Find.mem (by assumption) | (apply Find.row; (· (repeat constructor)); assumption))))
    | ((with_reducible refine' Wl.out ?_; apply wg_load hS); (· (first | exact Try.underlying2 | exact Try.underlying3)); (· exact rfl); (· (first | rfl | (go_simp; done))); (· exact rfl); (· (first | (apply Find.box; (· (repeat constructor)); rfl) | exact Find.mem (by assumption) | (apply Find.row; (· (repeat constructor)); assumption))))
    | ((with_reducible refine' Wl.out ?_; apply wl_loads hS); (· (first | exact rowT44 | exact rowT70 | exact rowT118)); (· exact rfl); (· (first | (apply Finds.box; (· (repeat constructor)); (· (repeat constructor)); done) | (refine Finds.mem2 (by assumption) ?_; first | rfl | assumption | (simp; done)) | (apply Finds.row; (· (repeat constructor)); (· assumption); (· rfl)))))
    | ((with_reducible refine' Wl.out ?_; apply wg_loads hS); (· (first | exact rowT44 | exact rowT70 | exact rowT118)); (· (first | rfl | (go_simp; done))); (· exact rfl); (· (first | (apply Finds.box; (· (repeat constructor)); (· (repeat constructor)); done) | (refine Finds.mem2 (by assumption) ?_; first | rfl | assumption | (simp; done)) | (apply Finds.row; (· (repeat constructor)); (· assumption); (· rfl)))))
    | ((with_reducible refine' Wl.out ?_); (with_reducible refine' wg_case ?_ ?_) <;> (intro hgW; (try (have hg2 := hgW; simp [go_sem] at hg2)); (first | (exfalso; assumption) | ((with_reducible refine' Wl.out ?_; apply wl_unwanted); (· exact hgW)) | ((with_reducible refine' Wl.out ?_; apply wg_load hS); (· (first | exact Try.underlying2 | exact Try.underlying3)); (· exact rfl); (· exact hgW); (· exact rfl); (· (first | (apply Find.box; (· (repeat constructor)); rfl) | exact Find.mem (by assumption) | (apply Find.row; (· (repeat constructor)); assumption)))) | ((with_reducible refine' Wl.out ?_; apply wg_loads hS); (· (first | exact rowT44 | exact rowT70 | exact rowT118)); (· exact hgW); (· exact rfl); (· (first | (apply Finds.box; (· (repeat constructor)); (· (repeat constructor)); done) | (refine Finds.mem2 (by assumption) ?_; first | rfl | assumption | (simp; done)) | (apply Finds.row; (· (repeat constructor)); (· assumption); (· rfl)))))); clear hgW))
    | ((with_reducible refine' Wl.out ?_; apply wl_store hS); (· (first | exact rowT2 | exact rowT3)); (· exact rfl); (· (first | (go_simp; done) | (go_simp; with_reducible rfl))); (· (first | rfl | assumption | (simp [Value.oneCell']; done))); (· (repeat constructor)); (· (repeat constructor)); (· (repeat constructor)); clear hS; intro ws hS)
    | ((with_reducible refine' Wl.out ?_; apply wl_storeR hS); (· (first | exact rowT2 | exact rowT3)); (· exact rfl); (· (first | (go_simp; done) | (go_simp; with_reducible rfl))); (· (first | rfl | assumption | (simp [Value.oneCell']; done))); (· (repeat constructor)); (· (first | assumption | omega | (simp; omega))); clear hS; intro ws hS)
    | ((with_reducible refine' Wl.out ?_; apply wl_stores hS); (· (first | exact rowT44 | exact rowT70 | exact rowT118)); (· exact rfl); (· exact rfl); (· exact rfl); (· (first | assumption | (simp [Value.oneCell']; done))); (· (repeat constructor)); (· (repeat constructor)); (· (repeat constructor)); clear hS; intro ws hS))
          have he := HE0.out
          refine ret_cells2 (n := 4) (k := 5) rfl rfl rfl hS (by (repeat constructor)) (by (repeat constructor)) rfl rfl dkRow lgRow rfl ?_
          rw [app_end3 (text := []) (P := 1) HE.out HP.out (HR.out.symm.trans HR2.out) (by rw [← HE107.out]; exact he), ← HD107.out]
          exact ⟨_, _, rfl, ⟨_, rfl, R107.out⟩, hS.done⟩
/-- journal.Append, whatever comes in. -/
theorem jappend_c (m : Mem) (w : World) (hm : m.In w) (cs : List Value) (d : Dk) (hd : dkL.rd m cs d) (b s g p n : Int) (vt : Value) (text : List Int) (ht : bytesL.rd m [vt] text) :
    Calls Try.prog 54 #[.agg cs.toArray, .agg ([.int .i64 b, .int .i64 s, .int .i64 g, .int .i64 p, .int .i64 n] : List Value).toArray, vt] w (RetDLE w m (appR d ⟨b, s, g, p, n⟩ text)) := by
  by_cases h0 : app0 d ⟨b, s, g, p, n⟩ text.length = 0
  · rcases Nat.eq_zero_or_pos text.length with h | h
    · have := List.eq_nil_of_length_eq_zero h
      subst this
      exact jappend_0 m w hm cs d hd b s g p n vt ht h0
    · exact jappend_yes m w hm cs d hd b s g p n vt text ht h0 h
  · exact jappend_no m w hm cs d hd b s g p n vt text ht h0
end Go.Proofs.Ytnmgiiaejpaeeaa
/- Texts: the law's few. -/
namespace Go.Proofs.Ytnmgiiaejpaeeaa
set_option linter.unusedVariables false
set_option linter.unusedSimpArgs false
open Go.RowKit Go.Shelf
def textsL : Lay (List (List Int)) := bytesL.list
def fewT (l : List (List Int)) : Bool := l.all (fun x => decide (x.length ≤ 200)) && decide (l.length ≤ 30)
set_option maxRecDepth 100000 in
set_option maxHeartbeats 4000000 in
theorem fewt_c (m : Mem) (w : World) (hm : m.In w) (v : Value) (l : List (List Int)) (h : textsL.rd m [v] l) :
    Calls Try.prog 65 #[v] w (Ret w m fun v _ => v = .bool (fewT l)) := by
  obtain ⟨p1, c1, rfl, b1, b2, b3, b4⟩ := Lay.list_open h
  have H4 := Lib.hid b4
  have hS := St.start hm
  simp only [maxLen] at b2
  clear h b3 b4
  go_enter Try.func65, Try.ntmps65
  go_wp2_with (first
    | ((with_reducible refine' Wl.out ?_; apply wl_load hS); (· (first | exact Try.underlying22)); (· exact rfl); (· exact rfl); (· (first | (apply Find.box; (· (repeat constructor)); rfl) | exact Find.mem (by assumption) | (apply Find.row; (· (repeat constructor)); assumption))))
    | ((with_reducible refine' Wl.out ?_; apply wg_load hS); (· (first | exact Try.underlying22)); (· exact rfl); (· (first | rfl | (go_simp; done))); (· exact rfl); (· (first | (apply Find.box; (· (repeat constructor)); rfl) | exact Find.mem (by assumption) | (apply Find.row; (· (repeat constructor)); assumption)))))
  go_loopw [7] (fun i wr => ∃ k : Nat, k ≤ l.length ∧ i = .int .i64 k ∧ Hid ((l.take k).all (fun x => decide (x.length ≤ 200)) = true) ∧ St [] w m wr [] m) (fun i _ => l.length - (intOf i).toNat)
  case atStart => exact ⟨0, Nat.zero_le _, rfl, by simp [Hid], hS⟩
  case round =>
    clear hS
    obtain ⟨k, hk, rfl, hall, hS⟩ := hrel
    by_cases hlt : k < l.length
    · obtain ⟨b, o, cs, rfl, hx, hg⟩ := H4.out.get k hlt
      obtain ⟨q, c, rfl, x1, x2, x3, x4⟩ := (show ∃ q c, cs = [.slice q l[k].length c] ∧ _ from hx)
      have hg' : m ⟨b, o + k, none⟩ = some (.slice q l[k].length c) := by have := hg 0 _ rfl; rw [show bytesL.n = 1 from rfl, Nat.mul_one] at this; exact this
      have HA : Hid ((l.take (k + 1)).all (fun x => decide (x.length ≤ 200)) = decide (l[k].length ≤ 200)) := by
        have := hall.out
        show _ = _
        rw [List.take_succ_eq_append_getElem hlt, List.all_append, this]; simp
      have x2' : c ≤ 9223372036854775807 := by simpa [maxLen] using x2
      clear hg hx hall x2 x3 x4
      go_wp2_with (first
    | ((with_reducible refine' Wl.out ?_; apply wl_load hS); (· (first | exact Try.underlying22)); (· exact rfl); (· exact rfl); (· (first | (apply Find.box; (· (repeat constructor)); rfl) | exact Find.mem (by assumption) | (apply Find.row; (· (repeat constructor)); assumption))))
    | ((with_reducible refine' Wl.out ?_; apply wg_load hS); (· (first | exact Try.underlying22)); (· exact rfl); (· (first | rfl | (go_simp; done))); (· exact rfl); (· (first | (apply Find.box; (· (repeat constructor)); rfl) | exact Find.mem (by assumption) | (apply Find.row; (· (repeat constructor)); assumption)))))
      · go_ret
        exact ⟨_, m, rfl, ret_bool' (by have := all_take _ _ _ (HA.out.trans (by simp; omega)); simp [fewT, this]), hS.done⟩
      · go_roundw
        case rel => exact ⟨k + 1, hlt, by go_num, HA.out.trans (by simp; omega), hS⟩
        case measure => simp [intOf]; omega
    · obtain rfl : k = l.length := by omega
      go_wp2_with fail
      go_ret
      exact ⟨_, m, rfl, ret_bool' (by have := hall.out; rw [List.take_length] at this; unfold fewT; rw [this, Bool.true_and]; exact decide_eq_decide.2 (by omega)), hS.done⟩
end Go.Proofs.Ytnmgiiaejpaeeaa
/- Reading journals: a part, the plain functions; contract of journal.open. -/
namespace Go.Proofs.Ytnmgiiaejpaeeaa
set_option linter.unusedVariables false
set_option linter.unusedSimpArgs false
open Go.RowKit Go.Shelf
/-- Octets in memory: one of them. -/
theorem bytes_cell {m : Mem} {b o n c : Nat} {Y : List Int} (h : bytesL.rd m [.slice (some ⟨b, o, none⟩) n c] Y) (i : Nat) (y : Int) (hy : Y[i]? = some y) : m ⟨b, o + i, none⟩ = some (.int .u8 y) := by
  obtain ⟨p, c', e, _, _, _, h4⟩ := Lay.list_open h
  cases e
  have hl := (List.getElem?_eq_some_iff.1 hy).1
  obtain ⟨b', o', cs, e, hr, hc⟩ := h4.get i hl
  cases e
  obtain ⟨hr1, _⟩ := hr
  have := hc 0 (.int .u8 Y[i]) (by rw [hr1]; rfl)
  rw [(List.getElem?_eq_some_iff.1 hy).2] at this
  simpa [Lay.int] using this
theorem bytes_isB {m : Mem} {v : Value} {Y : List Int} (h : bytesL.rd m [v] Y) : IsB Y := by
  obtain ⟨_, _, _, _, _, _, h4⟩ := Lay.list_open h
  exact inK_isB h4.inK
theorem open16 {xs : List Int} (h : openE xs = 0) : ∃ y0 y1 y2 y3 y4 ys, openP xs = y0 :: y1 :: y2 :: y3 :: y4 :: ys ∧ ys.length = 11 := by
  have hl : xs.length = 32 := by
    by_cases hl : xs.length = 32
    · exact hl
    · unfold openE at h; rw [if_pos hl] at h; cases h
  have hp : openP xs = (xs.drop 8).take 16 := if_pos h
  have h16 : (openP xs).length = 16 := by rw [hp]; simp; omega
  match hq : openP xs, h16 with
  | y0 :: y1 :: y2 :: y3 :: y4 :: ys, h16 => exact ⟨y0, y1, y2, y3, y4, ys, rfl, by simpa using h16⟩
theorem or256 {x y : Int} (hx : 0 ≤ x ∧ x < 256) (hy : 0 ≤ y ∧ y < 256) : bits .or .i64 (IntKind.i64.wrap x) (IntKind.i64.wrap (IntKind.i64.wrap y * 256)) = x + 256 * y := by
  rw [IntWalk.i64_in x (by omega), IntWalk.i64_in y (by omega), IntWalk.i64_in (y * 256) (by omega)]
  have hc : bits .or .i64 x (y * 256) = bits .or .i64 (y * 256) x := by simp only [bits, BitVec.or_comm]
  rw [hc, bits_join .i64 63 (by decide) (fun n h0 h1 => IntWalk.i64_in n (by omega)) 8 (y * 256) x (by omega) (by omega) (by omega) (by omega) (by omega) (by omega)]
  omega
/-- What a sector of a journal's next group tells: its place, how many there are, its octets. -/
def pieceR (d : Dk) (g : Lg) (k : Int) : Option (Int × Int × List Int) :=
  if readE d (g.base + k) = 0 ∧ openE (readB d (g.base + k)) = 0 ∧ openN (readB d (g.base + k)) = stampOf g ∧ (openP (readB d (g.base + k))).getD 4 0 ≤ 11 then
    some ((openP (readB d (g.base + k))).getD 0 0 + 256 * (openP (readB d (g.base + k))).getD 1 0, (openP (readB d (g.base + k))).getD 2 0 + 256 * (openP (readB d (g.base + k))).getD 3 0, ((openP (readB d (g.base + k))).drop 5).take ((openP (readB d (g.base + k))).getD 4 0).toNat)
  else none
def RetPiece (w : World) (m : Mem) : Option (Int × Int × List Int) → Ending → World → Prop
  | none => Ret w m fun v _ => v = .tuple #[.agg ([.int .i64 0, .int .i64 0, .slice none 0 0] : List Value).toArray, .bool false]
  | some (i, n, own) => Ret w m fun v m' => ∃ q c, v = .tuple #[.agg ([.int .i64 i, .int .i64 n, .slice q own.length c] : List Value).toArray, .bool true] ∧ Hid (bytesL.rd m' [.slice q own.length c] own) ∧ Hid (0 ≤ i ∧ i ≤ 65535 ∧ 0 ≤ n ∧ n ≤ 65535 ∧ own.length ≤ 11)
theorem pieceRow : ∃ d, Try.prog.underlying 118 = some d ∧ d.isRow = true ∧ (Try.prog.info? 118).map (·.size) = some 3 := ⟨_, Try.underlying118, rfl, by kernel_rfl⟩
theorem piece_no {d : Dk} {g : Lg} {k : Int} (h : ¬ (readE d (g.base + k) = 0 ∧ openE (readB d (g.base + k)) = 0 ∧ openN (readB d (g.base + k)) = stampOf g ∧ (openP (readB d (g.base + k))).getD 4 0 ≤ 11)) : pieceR d g k = none := if_neg h
theorem piece_yes {d : Dk} {g : Lg} {k : Int} {y0 y1 y2 y3 y4 : Int} {ys : List Int} (h1 : readE d (g.base + k) = 0) (h2 : openE (readB d (g.base + k)) = 0) (h3 : openN (readB d (g.base + k)) = stampOf g) (h4 : openP (readB d (g.base + k)) = y0 :: y1 :: y2 :: y3 :: y4 :: ys) (h5 : y4 ≤ 11) :
    pieceR d g k = some (y0 + 256 * y1, y2 + 256 * y3, ys.take y4.toNat) := by
  unfold pieceR
  rw [h4, if_pos ⟨h1, h2, h3, by simpa using h5⟩]
  rfl
set_option maxRecDepth 100000 in
set_option maxHeartbeats 8000000 in
theorem jpiece_c (m : Mem) (w : World) (hm : m.In w) (cs : List Value) (d : Dk) (hd : dkL.rd m cs d) (b s g p n : Int) (hg : lgOK ⟨b, s, g, p, n⟩) (k : Int) (k0 : 0 ≤ k) (k1 : k ≤ 4096) :
    Calls Try.prog 97 #[.agg cs.toArray, .agg ([.int .i64 b, .int .i64 s, .int .i64 g, .int .i64 p, .int .i64 n] : List Value).toArray, .int .i64 k] w (RetPiece w m (pieceR d ⟨b, s, g, p, n⟩ k)) := by
  obtain ⟨p0, c0, q0, a0, rfl, A0⟩ := dkL_cells hd
  have hS := St.start hm
  obtain ⟨PE, PV⟩ := pair_stamp hg
  have HPE := Lib.hid PE
  have HPV := Lib.hid PV
  obtain ⟨g1, g2, g3, g4, g5, g6, _, _, g9, g10⟩ := hg
  simp only at g1 g2 g3 g4 g5 g6 g9 g10 HPE HPV
  clear hd PE PV
  have ew0 : IntKind.i64.wrap (b + k) = b + k := IntWalk.i64_in _ (by omega)
  have ew1 : IntKind.i64.wrap (524288 + n) = 524288 + n := IntWalk.i64_in _ (by omega)
  go_enter Try.func97, Try.ntmps97
  go_wp2_with (first
    | ((with_reducible refine' Wl.out ?_; apply wl_box (ty := 44) (y := (.tmp 0)) hS); (· (first | (go_simp; done) | (go_simp; with_reducible rfl))); (· exact rfl); clear hS; intro w3 b3 hS)
    | ((with_reducible refine' Wl.out ?_; apply wl_box (ty := 70) (y := (.tmp 1)) hS); (· (first | (go_simp; done) | (go_simp; with_reducible rfl))); (· exact rfl); clear hS; intro w4 b4 hS)
    | ((with_reducible refine' Wl.out ?_; apply wl_alloc (ty := 118) (dst := some 6) hS (.agg #[.int .i64 0, .int .i64 0, .slice none 0 0]) [.int .i64 0, .int .i64 0, .slice none 0 0]); (· kernel_rfl); (· rfl); clear hS; intro w6 b6 hS)
    | ((with_reducible refine' Wl.out ?_; apply wl_load hS); (· (first | exact Try.underlying2 | exact Try.underlying3 | exact Try.underlying5)); (· exact rfl); (· exact rfl); (· (first | (apply Find.box; (· (repeat constructor)); rfl) | exact Find.mem (by assumption) | (apply Find.row; (· (repeat constructor)); assumption))))
    | ((with_reducible refine' Wl.out ?_; apply wg_load hS); (· (first | exact Try.underlying2 | exact Try.underlying3 | exact Try.underlying5)); (· exact rfl); (· (first | rfl | (go_simp; done))); (· exact rfl); (· (first | (apply Find.box; (· (repeat constructor)); rfl) | exact Find.mem (by assumption) | (apply Find.row; (· (repeat constructor)); assumption))))
    | ((with_reducible refine' Wl.out ?_; apply wl_loads hS); (· (first | exact rowT44 | exact rowT118)); (· exact rfl); (· (first | (apply Finds.box; (· (repeat constructor)); (· (repeat constructor)); done) | (refine Finds.mem2 (by assumption) ?_; first | rfl | assumption | (simp; done)) | (apply Finds.row; (· (repeat constructor)); (· assumption); (· rfl)))))
    | ((with_reducible refine' Wl.out ?_; apply wg_loads hS); (· (first | exact rowT44 | exact rowT118)); (· (first | rfl | (go_simp; done))); (· exact rfl); (· (first | (apply Finds.box; (· (repeat constructor)); (· (repeat constructor)); done) | (refine Finds.mem2 (by assumption) ?_; first | rfl | assumption | (simp; done)) | (apply Finds.row; (· (repeat constructor)); (· assumption); (· rfl)))))
    | ((with_reducible refine' Wl.out ?_); (with_reducible refine' wg_case ?_ ?_) <;> (intro hgW; (try (have hg2 := hgW; simp [go_sem] at hg2)); (first | (exfalso; assumption) | ((with_reducible refine' Wl.out ?_; apply wl_unwanted); (· exact hgW)) | ((with_reducible refine' Wl.out ?_; apply wg_load hS); (· (first | exact Try.underlying2 | exact Try.underlying3 | exact Try.underlying5)); (· exact rfl); (· exact hgW); (· exact rfl); (· (first | (apply Find.box; (· (repeat constructor)); rfl) | exact Find.mem (by assumption) | (apply Find.row; (· (repeat constructor)); assumption)))) | ((with_reducible refine' Wl.out ?_; apply wg_loads hS); (· (first | exact rowT44 | exact rowT118)); (· exact hgW); (· exact rfl); (· (first | (apply Finds.box; (· (repeat constructor)); (· (repeat constructor)); done) | (refine Finds.mem2 (by assumption) ?_; first | rfl | assumption | (simp; done)) | (apply Finds.row; (· (repeat constructor)); (· assumption); (· rfl)))))); clear hgW))
    | ((with_reducible refine' Wl.out ?_; apply wl_store hS); (· (first | exact rowT3 | exact rowT22)); (· exact rfl); (· (first | (go_simp; done) | (go_simp; with_reducible rfl))); (· (first | rfl | assumption | (simp [Value.oneCell']; done))); (· (repeat constructor)); (· (repeat constructor)); (· (repeat constructor)); clear hS; intro ws hS)
    | ((with_reducible refine' Wl.out ?_; apply wl_storeR hS); (· (first | exact rowT3 | exact rowT22)); (· exact rfl); (· (first | (go_simp; done) | (go_simp; with_reducible rfl))); (· (first | rfl | assumption | (simp [Value.oneCell']; done))); (· (repeat constructor)); (· (first | assumption | omega | (simp; omega))); clear hS; intro ws hS)
    | ((with_reducible refine' Wl.out ?_; apply wl_stores hS); (· (first | exact rowT118)); (· exact rfl); (· exact rfl); (· exact rfl); (· (first | assumption | (simp [Value.oneCell']; done))); (· (repeat constructor)); (· (repeat constructor)); (· (repeat constructor)); clear hS; intro ws hS)
    | (go_at_call 39; (fail_if_success (clear Mk20)); refine (letBE (read_c _ _ hS.inw _ _ (by first | exact A0.out | exact R20.out | exact R28.out | exact dkL_dry A0.out | exact Lay.nil_rd _ _) _)).mono ?_; rintro e' w20 ⟨_, m20, rfl, ⟨p20, c20, Y20, E20, HY20, HE20, rfl, R20, C20⟩, hk⟩; replace hS := hS.call hk; (try replace A0 := Lib.hid (Lay.mono _ hk.le A0.out)); (try replace R20 := Lib.hid (Lay.mono _ hk.le R20.out)); (try replace R28 := Lib.hid (Lay.mono _ hk.le R28.out)); clear hk; have Mk20 := True.intro)
    | (go_at_call 23; (fail_if_success (clear Mk28)); refine (open_c _ _ hS.inw _ _ (by first | exact A0.out | exact R20.out | exact R28.out | exact dkL_dry A0.out | exact Lay.nil_rd _ _)).mono ?_; rintro e' w28 ⟨_, m28, rfl, ⟨p28, c28, Y28, N28, E28, HY28, HN28, HE28, rfl, R28, C28⟩, hk⟩; replace hS := hS.call hk; (try replace A0 := Lib.hid (Lay.mono _ hk.le A0.out)); (try replace R20 := Lib.hid (Lay.mono _ hk.le R20.out)); (try replace R28 := Lib.hid (Lay.mono _ hk.le R28.out)); clear hk; have Mk28 := True.intro))
  · have he : E20 ≠ 0 := by simp_all
    rw [piece_no (fun hh => he (HE20.out.trans hh.1))]
    refine ret_cell_tmp (n := 3) rfl rfl hS (by (repeat constructor)) (by rfl) pieceRow rfl ?_
    exact ⟨_, _, rfl, rfl, hS.done⟩
  · have he20 : E20 = 0 := by simp_all
    subst he20
    have PC : ∀ h : ¬ (readE d (b + k) = 0 ∧ openE (readB d (b + k)) = 0 ∧ openN (readB d (b + k)) = stampOf ⟨b, s, g, p, n⟩ ∧ (openP (readB d (b + k))).getD 4 0 ≤ 11), pieceR d ⟨b, s, g, p, n⟩ k = none := fun h => piece_no h
    by_cases hE : E28 = 0
    · subst hE
      obtain ⟨y0, y1, y2, y3, y4, ys, hY, hl⟩ := open16 HE28.out.symm
      have HY := Lib.hid (HY28.out.trans hY)
      have HL := Lib.hid hl
      have hlen : Y28.length = 16 := by rw [HY.out]; simp [hl]
      obtain ⟨_, _, e, _, _, _, o4⟩ := Lay.list_open R28.out
      cases e
      obtain ⟨bb, oo, rfl, _⟩ := o4 (by omega)
      rw [hlen] at R28 C28 ⊢
      have hB := bytes_isB R28.out
      rw [HY.out] at hB
      have z0 := hB y0 (by simp)
      have z1 := hB y1 (by simp)
      have z2 := hB y2 (by simp)
      have z3 := hB y3 (by simp)
      have z4 := hB y4 (by simp)
      have c16 := C28.out.1
      have c17 := C28.out.2
      clear o4 hY hl hlen hB
      have FA : ∀ m' : Mem, bytesL.rd m' [.slice (some ⟨bb, oo, none⟩) 16 c28] Y28 → m' ⟨bb, oo, none⟩ = some (.int .u8 y0) ∧ m' ⟨bb, oo + 1, none⟩ = some (.int .u8 y1) ∧ m' ⟨bb, oo + 2, none⟩ = some (.int .u8 y2) ∧ m' ⟨bb, oo + 3, none⟩ = some (.int .u8 y3) ∧ m' ⟨bb, oo + 4, none⟩ = some (.int .u8 y4) := fun m' hr =>
        ⟨bytes_cell hr 0 y0 (by rw [HY.out]; rfl), bytes_cell hr 1 y1 (by rw [HY.out]; rfl), bytes_cell hr 2 y2 (by rw [HY.out]; rfl), bytes_cell hr 3 y3 (by rw [HY.out]; rfl), bytes_cell hr 4 y4 (by rw [HY.out]; rfl)⟩
      have FA' := Lib.hid FA
      clear FA
      by_cases hN : N28 = stampOf ⟨b, s, g, p, n⟩
      · have hx : (N28 != stampOf ⟨b, s, g, p, n⟩) = false := by simp [hN]
        by_cases h11 : y4 ≤ 11
        · go_wp2_with (first
    | ((with_reducible refine' Wl.out ?_; apply wl_box (ty := 44) (y := (.tmp 0)) hS); (· (first | (go_simp; done) | (go_simp; with_reducible rfl))); (· exact rfl); clear hS; intro w3 b3 hS)
    | ((with_reducible refine' Wl.out ?_; apply wl_box (ty := 70) (y := (.tmp 1)) hS); (· (first | (go_simp; done) | (go_simp; with_reducible rfl))); (· exact rfl); clear hS; intro w4 b4 hS)
    | ((with_reducible refine' Wl.out ?_; apply wl_alloc (ty := 118) (dst := some 6) hS (.agg #[.int .i64 0, .int .i64 0, .slice none 0 0]) [.int .i64 0, .int .i64 0, .slice none 0 0]); (· kernel_rfl); (· rfl); clear hS; intro w6 b6 hS)
    | ((with_reducible refine' Wl.out ?_; apply wl_load hS); (· (first | exact Try.underlying2 | exact Try.underlying3 | exact Try.underlying5)); (· exact rfl); (· exact rfl); (· (first | (apply Find.box; (· (repeat constructor)); rfl) | exact Find.mem (by assumption) | (apply Find.row; (· (repeat constructor)); assumption))))
    | ((with_reducible refine' Wl.out ?_; apply wg_load hS); (· (first | exact Try.underlying2 | exact Try.underlying3 | exact Try.underlying5)); (· exact rfl); (· (first | rfl | (go_simp; done))); (· exact rfl); (· (first | (apply Find.box; (· (repeat constructor)); rfl) | exact Find.mem (by assumption) | (apply Find.row; (· (repeat constructor)); assumption))))
    | ((with_reducible refine' Wl.out ?_; apply wl_loads hS); (· (first | exact rowT44 | exact rowT118)); (· exact rfl); (· (first | (apply Finds.box; (· (repeat constructor)); (· (repeat constructor)); done) | (refine Finds.mem2 (by assumption) ?_; first | rfl | assumption | (simp; done)) | (apply Finds.row; (· (repeat constructor)); (· assumption); (· rfl)))))
    | ((with_reducible refine' Wl.out ?_; apply wg_loads hS); (· (first | exact rowT44 | exact rowT118)); (· (first | rfl | (go_simp; done))); (· exact rfl); (· (first | (apply Finds.box; (· (repeat constructor)); (· (repeat constructor)); done) | (refine Finds.mem2 (by assumption) ?_; first | rfl | assumption | (simp; done)) | (apply Finds.row; (· (repeat constructor)); (· assumption); (· rfl)))))
    | ((with_reducible refine' Wl.out ?_); (with_reducible refine' wg_case ?_ ?_) <;> (intro hgW; (try (have hg2 := hgW; simp [go_sem] at hg2)); (first | (exfalso; assumption) | ((with_reducible refine' Wl.out ?_; apply wl_unwanted); (· exact hgW)) | ((with_reducible refine' Wl.out ?_; apply wg_load hS); (· (first | exact Try.underlying2 | exact Try.underlying3 | exact Try.underlying5)); (· exact rfl); (· exact hgW); (· exact rfl); (· (first | (apply Find.box; (· (repeat constructor)); rfl) | exact Find.mem (by assumption) | (apply Find.row; (· (repeat constructor)); assumption)))) | ((with_reducible refine' Wl.out ?_; apply wg_loads hS); (· (first | exact rowT44 | exact rowT118)); (· exact hgW); (· exact rfl); (· (first | (apply Finds.box; (· (repeat constructor)); (· (repeat constructor)); done) | (refine Finds.mem2 (by assumption) ?_; first | rfl | assumption | (simp; done)) | (apply Finds.row; (· (repeat constructor)); (· assumption); (· rfl)))))); clear hgW))
    | ((with_reducible refine' Wl.out ?_; apply wl_store hS); (· (first | exact rowT3 | exact rowT22)); (· exact rfl); (· (first | (go_simp; done) | (go_simp; with_reducible rfl))); (· (first | rfl | assumption | (simp [Value.oneCell']; done))); (· (repeat constructor)); (· (repeat constructor)); (· (repeat constructor)); clear hS; intro ws hS)
    | ((with_reducible refine' Wl.out ?_; apply wl_storeR hS); (· (first | exact rowT3 | exact rowT22)); (· exact rfl); (· (first | (go_simp; done) | (go_simp; with_reducible rfl))); (· (first | rfl | assumption | (simp [Value.oneCell']; done))); (· (repeat constructor)); (· (first | assumption | omega | (simp; omega))); clear hS; intro ws hS)
    | ((with_reducible refine' Wl.out ?_; apply wl_stores hS); (· (first | exact rowT118)); (· exact rfl); (· exact rfl); (· exact rfl); (· (first | assumption | (simp [Value.oneCell']; done))); (· (repeat constructor)); (· (repeat constructor)); (· (repeat constructor)); clear hS; intro ws hS)
    | (go_at_call 24; (fail_if_success (clear Mk38)); refine (letII (pair_c _ _ hS.inw _ _)).mono ?_; rintro e' w38 ⟨_, m38, rfl, ⟨N38, E38, HN38, HE38, rfl⟩, hk⟩; replace hS := hS.call hk; (try replace A0 := Lib.hid (Lay.mono _ hk.le A0.out)); (try replace R20 := Lib.hid (Lay.mono _ hk.le R20.out)); (try replace R28 := Lib.hid (Lay.mono _ hk.le R28.out)); clear hk; replace HE38 := Lib.hid (HE38.out.trans HPE.out); obtain rfl := HE38.out; replace HN38 := Lib.hid (HN38.out.trans HPV.out); obtain rfl := HN38.out; obtain ⟨f0, f1, f2, f3, f4⟩ := FA'.out _ R28.out; have Mk38 := True.intro))
          replace hS := hS.drew
          refine startL (S := Sx _ []) (by kernel_rfl) hS.sx0 (fun _ _ _ _ => trivial) (fun hHeld => ?_)
          focus (refine takeN 0 (v := ?_) rfl (by kernel_rfl) ?_ ?_; rotate_left; focus (intro w hSw; clear hSw; go_simp; try with_reducible rfl))
          try simp only [Act.put, nz1, nz2, nz3]
          focus (refine takeN 1 (v := ?_) rfl (by kernel_rfl) ?_ ?_; rotate_left; focus (intro w hSw; clear hSw; go_simp; try with_reducible rfl))
          try simp only [Act.put, nz1, nz2, nz3]
          refine takeN 2 rfl (by kernel_rfl) (yield_load rfl Try.underlying5 rfl rfl (by (first | (apply FindX.box; (· (repeat constructor)); rfl) | exact FindX.mem (by assumption)))) ?_
          try simp only [Act.put, nz1, nz2, nz3]
          focus (refine takeN 3 (v := ?_) rfl (by kernel_rfl) ?_ ?_; rotate_left; focus (intro w hSw; clear hSw; go_simp; try with_reducible rfl))
          try simp only [Act.put, nz1, nz2, nz3]
          focus (refine takeN 4 (v := ?_) rfl (by kernel_rfl) ?_ ?_; rotate_left; focus (intro w hSw; clear hSw; go_simp; try with_reducible rfl))
          try simp only [Act.put, nz1, nz2, nz3]
          focus (refine takeN 5 (v := ?_) rfl (by kernel_rfl) ?_ ?_; rotate_left; focus (intro w hSw; clear hSw; go_simp; try with_reducible rfl))
          try simp only [Act.put, nz1, nz2, nz3]
          refine takeN 6 rfl (by kernel_rfl) (yield_load rfl Try.underlying5 rfl rfl (by (first | (apply FindX.box; (· (repeat constructor)); rfl) | exact FindX.mem (by assumption)))) ?_
          try simp only [Act.put, nz1, nz2, nz3]
          focus (refine takeN 7 (v := ?_) rfl (by kernel_rfl) ?_ ?_; rotate_left; focus (intro w hSw; clear hSw; go_simp; try with_reducible rfl))
          try simp only [Act.put, nz1, nz2, nz3]
          focus (refine takeN 8 (v := ?_) rfl (by kernel_rfl) ?_ ?_; rotate_left; focus (intro w hSw; clear hSw; go_simp; try with_reducible rfl))
          try simp only [Act.put, nz1, nz2, nz3]
          focus (refine takeN 9 (v := ?_) rfl (by kernel_rfl) ?_ ?_; rotate_left; focus (intro w hSw; clear hSw; go_simp; try with_reducible rfl))
          try simp only [Act.put, nz1, nz2, nz3]
          focus (refine takeN 10 (v := ?_) rfl (by kernel_rfl) ?_ ?_; rotate_left; focus (intro w hSw; clear hSw; go_simp; try with_reducible rfl))
          try simp only [Act.put, nz1, nz2, nz3]
          focus (refine takeN 11 (v := ?_) rfl (by kernel_rfl) ?_ ?_; rotate_left; focus (intro w hSw; clear hSw; go_simp; try with_reducible rfl))
          try simp only [Act.put, nz1, nz2, nz3]
          refine takeN 12 rfl (by kernel_rfl) (yield_load rfl Try.underlying5 rfl rfl (by (first | (apply FindX.box; (· (repeat constructor)); rfl) | exact FindX.mem (by assumption)))) ?_
          try simp only [Act.put, nz1, nz2, nz3]
          focus (refine takeN 13 (v := ?_) rfl (by kernel_rfl) ?_ ?_; rotate_left; focus (intro w hSw; clear hSw; go_simp; try with_reducible rfl))
          try simp only [Act.put, nz1, nz2, nz3]
          focus (refine takeN 14 (v := ?_) rfl (by kernel_rfl) ?_ ?_; rotate_left; focus (intro w hSw; clear hSw; go_simp; try with_reducible rfl))
          try simp only [Act.put, nz1, nz2, nz3]
          focus (refine takeN 15 (v := ?_) rfl (by kernel_rfl) ?_ ?_; rotate_left; focus (intro w hSw; clear hSw; go_simp; try with_reducible rfl))
          try simp only [Act.put, nz1, nz2, nz3]
          refine takeN 16 rfl (by kernel_rfl) (yield_load rfl Try.underlying5 rfl rfl (by (first | (apply FindX.box; (· (repeat constructor)); rfl) | exact FindX.mem (by assumption)))) ?_
          try simp only [Act.put, nz1, nz2, nz3]
          focus (refine takeN 17 (v := ?_) rfl (by kernel_rfl) ?_ ?_; rotate_left; focus (intro w hSw; clear hSw; go_simp; try with_reducible rfl))
          try simp only [Act.put, nz1, nz2, nz3]
          focus (refine takeN 18 (v := ?_) rfl (by kernel_rfl) ?_ ?_; rotate_left; focus (intro w hSw; clear hSw; go_simp; try with_reducible rfl))
          try simp only [Act.put, nz1, nz2, nz3]
          focus (refine takeN 19 (v := ?_) rfl (by kernel_rfl) ?_ ?_; rotate_left; focus (intro w hSw; clear hSw; go_simp; try with_reducible rfl))
          try simp only [Act.put, nz1, nz2, nz3]
          focus (refine takeN 20 (v := ?_) rfl (by kernel_rfl) ?_ ?_; rotate_left; focus (intro w hSw; clear hSw; go_simp; try with_reducible rfl))
          try simp only [Act.put, nz1, nz2, nz3]
          refine wpAnyH_ready (rs := [21]) (by kernel_rfl) (by simp) ?_
          refine consL 21 rfl (fun K hK => ?_) AllReadyH.nil
          (with_reducible apply s_store hS); (· exact rowT3); (· exact rfl); (· (first | (go_simp; done) | (go_simp; with_reducible rfl))); (· (first | rfl | assumption | (simp [Value.oneCell']; done))); (· (repeat constructor)); (· (repeat constructor)); (· (repeat constructor)); clear hS; intro ws hS
          refine hK.out _ _ (by first | exact hS.sx0 | exact Sx.le (by assumption) hS.sx0) (fun hHeld => ?_)
          clear hK K
          try simp only [Act.put, nz1, nz2, nz3]
          focus (refine takeN 22 (v := ?_) rfl (by kernel_rfl) ?_ ?_; rotate_left; focus (intro w hSw; clear hSw; go_simp; try with_reducible rfl))
          try simp only [Act.put, nz1, nz2, nz3]
          refine wpAnyH_ready (rs := [23]) (by kernel_rfl) (by simp) ?_
          refine consL 23 rfl (fun K hK => ?_) AllReadyH.nil
          (with_reducible apply s_store hS); (· exact rowT3); (· exact rfl); (· (first | (go_simp; done) | (go_simp; with_reducible rfl))); (· (first | rfl | assumption | (simp [Value.oneCell']; done))); (· (repeat constructor)); (· (repeat constructor)); (· (repeat constructor)); clear hS; intro ws hS
          refine hK.out _ _ (by first | exact hS.sx0 | exact Sx.le (by assumption) hS.sx0) (fun hHeld => ?_)
          clear hK K
          try simp only [Act.put, nz1, nz2, nz3]
          refine wpAnyH_done (by kernel_rfl) ?_ _
          refine NoPanic.normal ?_
          all_goals
            go_wp2_with (first
    | ((with_reducible refine' Wl.out ?_; apply wl_box (ty := 44) (y := (.tmp 0)) hS); (· (first | (go_simp; done) | (go_simp; with_reducible rfl))); (· exact rfl); clear hS; intro w3 b3 hS)
    | ((with_reducible refine' Wl.out ?_; apply wl_box (ty := 70) (y := (.tmp 1)) hS); (· (first | (go_simp; done) | (go_simp; with_reducible rfl))); (· exact rfl); clear hS; intro w4 b4 hS)
    | ((with_reducible refine' Wl.out ?_; apply wl_alloc (ty := 118) (dst := some 6) hS (.agg #[.int .i64 0, .int .i64 0, .slice none 0 0]) [.int .i64 0, .int .i64 0, .slice none 0 0]); (· kernel_rfl); (· rfl); clear hS; intro w6 b6 hS)
    | ((with_reducible refine' Wl.out ?_; apply wl_load hS); (· (first | exact Try.underlying2 | exact Try.underlying3 | exact Try.underlying5)); (· exact rfl); (· exact rfl); (· (first | (apply Find.box; (· (repeat constructor)); rfl) | exact Find.mem (by assumption) | (apply Find.row; (· (repeat constructor)); assumption))))
    | ((with_reducible refine' Wl.out ?_; apply wg_load hS); (· (first | exact Try.underlying2 | exact Try.underlying3 | exact Try.underlying5)); (· exact rfl); (· (first | rfl | (go_simp; done))); (· exact rfl); (· (first | (apply Find.box; (· (repeat constructor)); rfl) | exact Find.mem (by assumption) | (apply Find.row; (· (repeat constructor)); assumption))))
    | ((with_reducible refine' Wl.out ?_; apply wl_loads hS); (· (first | exact rowT44 | exact rowT118)); (· exact rfl); (· (first | (apply Finds.box; (· (repeat constructor)); (· (repeat constructor)); done) | (refine Finds.mem2 (by assumption) ?_; first | rfl | assumption | (simp; done)) | (apply Finds.row; (· (repeat constructor)); (· assumption); (· rfl)))))
    | ((with_reducible refine' Wl.out ?_; apply wg_loads hS); (· (first | exact rowT44 | exact rowT118)); (· (first | rfl | (go_simp; done))); (· exact rfl); (· (first | (apply Finds.box; (· (repeat constructor)); (· (repeat constructor)); done) | (refine Finds.mem2 (by assumption) ?_; first | rfl | assumption | (simp; done)) | (apply Finds.row; (· (repeat constructor)); (· assumption); (· rfl)))))
    | ((with_reducible refine' Wl.out ?_); (with_reducible refine' wg_case ?_ ?_) <;> (intro hgW; (try (have hg2 := hgW; simp [go_sem] at hg2)); (first | (exfalso; assumption) | ((with_reducible refine' Wl.out ?_; apply wl_unwanted); (· exact hgW)) | ((with_reducible refine' Wl.out ?_; apply wg_load hS); (· (first | exact Try.underlying2 | exact Try.underlying3 | exact Try.underlying5)); (· exact rfl); (· exact hgW); (· exact rfl); (· (first | (apply Find.box; (· (repeat constructor)); rfl) | exact Find.mem (by assumption) | (apply Find.row; (· (repeat constructor)); assumption)))) | ((with_reducible refine' Wl.out ?_; apply wg_loads hS); (· (first | exact rowT44 | exact rowT118)); (· exact hgW); (· exact rfl); (· (first | (apply Finds.box; (· (repeat constructor)); (· (repeat constructor)); done) | (refine Finds.mem2 (by assumption) ?_; first | rfl | assumption | (simp; done)) | (apply Finds.row; (· (repeat constructor)); (· assumption); (· rfl)))))); clear hgW))
    | ((with_reducible refine' Wl.out ?_; apply wl_store hS); (· (first | exact rowT3 | exact rowT22)); (· exact rfl); (· (first | (go_simp; done) | (go_simp; with_reducible rfl))); (· (first | rfl | assumption | (simp [Value.oneCell']; done))); (· (repeat constructor)); (· (repeat constructor)); (· (repeat constructor)); clear hS; intro ws hS)
    | ((with_reducible refine' Wl.out ?_; apply wl_storeR hS); (· (first | exact rowT3 | exact rowT22)); (· exact rfl); (· (first | (go_simp; done) | (go_simp; with_reducible rfl))); (· (first | rfl | assumption | (simp [Value.oneCell']; done))); (· (repeat constructor)); (· (first | assumption | omega | (simp; omega))); clear hS; intro ws hS)
    | ((with_reducible refine' Wl.out ?_; apply wl_stores hS); (· (first | exact rowT118)); (· exact rfl); (· exact rfl); (· exact rfl); (· (first | assumption | (simp [Value.oneCell']; done))); (· (repeat constructor)); (· (repeat constructor)); (· (repeat constructor)); clear hS; intro ws hS))
            have hpy : pieceR d ⟨b, s, g, p, n⟩ k = some (y0 + 256 * y1, y2 + 256 * y3, ys.take y4.toNat) :=
              piece_yes (g := ⟨b, s, g, p, n⟩) (ys := ys) (HE20.out.symm) (by rw [← HY20.out]; exact HE28.out.symm) (by rw [← HY20.out, ← HN28.out]; exact hN) (by rw [← HY20.out, ← HY28.out, HY.out]) h11
            have hol : (ys.take y4.toNat).length = y4.toNat := by rw [List.length_take, HL.out]; omega
            rw [hpy]
            rw [or256 z0 z1, or256 z2 z3, show (5 + y4).toNat - 5 = (ys.take y4.toNat).length by omega] at hS
            have hrd := rdL_part R28.out 5 (5 + y4.toNat) (by omega) (by omega)
            rw [show (Lay.int .u8).n = 1 from rfl, show oo + 5 * 1 = oo + 5 by omega, show 5 + y4.toNat - 5 = (ys.take y4.toNat).length by omega, HY.out, show ((y0 :: y1 :: y2 :: y3 :: y4 :: ys).take (5 + y4.toNat)).drop 5 = ys.take y4.toNat by rw [List.drop_take]; simp] at hrd
            have HRD := Lib.hid hrd
            have HB := Lib.hid (show (0 : Int) ≤ y0 + 256 * y1 ∧ y0 + 256 * y1 ≤ 65535 ∧ 0 ≤ y2 + 256 * y3 ∧ y2 + 256 * y3 ≤ 65535 ∧ (ys.take y4.toNat).length ≤ 11 by omega)
            refine ret_cell_tmp (n := 3) rfl rfl hS (by (repeat constructor)) (by rfl) pieceRow rfl ?_
            exact ⟨_, _, rfl, ⟨_, _, rfl, HRD, HB⟩, hS.done⟩
        · go_wp2_with (first
    | ((with_reducible refine' Wl.out ?_; apply wl_box (ty := 44) (y := (.tmp 0)) hS); (· (first | (go_simp; done) | (go_simp; with_reducible rfl))); (· exact rfl); clear hS; intro w3 b3 hS)
    | ((with_reducible refine' Wl.out ?_; apply wl_box (ty := 70) (y := (.tmp 1)) hS); (· (first | (go_simp; done) | (go_simp; with_reducible rfl))); (· exact rfl); clear hS; intro w4 b4 hS)
    | ((with_reducible refine' Wl.out ?_; apply wl_alloc (ty := 118) (dst := some 6) hS (.agg #[.int .i64 0, .int .i64 0, .slice none 0 0]) [.int .i64 0, .int .i64 0, .slice none 0 0]); (· kernel_rfl); (· rfl); clear hS; intro w6 b6 hS)
    | ((with_reducible refine' Wl.out ?_; apply wl_load hS); (· (first | exact Try.underlying2 | exact Try.underlying3 | exact Try.underlying5)); (· exact rfl); (· exact rfl); (· (first | (apply Find.box; (· (repeat constructor)); rfl) | exact Find.mem (by assumption) | (apply Find.row; (· (repeat constructor)); assumption))))
    | ((with_reducible refine' Wl.out ?_; apply wg_load hS); (· (first | exact Try.underlying2 | exact Try.underlying3 | exact Try.underlying5)); (· exact rfl); (· (first | rfl | (go_simp; done))); (· exact rfl); (· (first | (apply Find.box; (· (repeat constructor)); rfl) | exact Find.mem (by assumption) | (apply Find.row; (· (repeat constructor)); assumption))))
    | ((with_reducible refine' Wl.out ?_; apply wl_loads hS); (· (first | exact rowT44 | exact rowT118)); (· exact rfl); (· (first | (apply Finds.box; (· (repeat constructor)); (· (repeat constructor)); done) | (refine Finds.mem2 (by assumption) ?_; first | rfl | assumption | (simp; done)) | (apply Finds.row; (· (repeat constructor)); (· assumption); (· rfl)))))
    | ((with_reducible refine' Wl.out ?_; apply wg_loads hS); (· (first | exact rowT44 | exact rowT118)); (· (first | rfl | (go_simp; done))); (· exact rfl); (· (first | (apply Finds.box; (· (repeat constructor)); (· (repeat constructor)); done) | (refine Finds.mem2 (by assumption) ?_; first | rfl | assumption | (simp; done)) | (apply Finds.row; (· (repeat constructor)); (· assumption); (· rfl)))))
    | ((with_reducible refine' Wl.out ?_); (with_reducible refine' wg_case ?_ ?_) <;> (intro hgW; (try (have hg2 := hgW; simp [go_sem] at hg2)); (first | (exfalso; assumption) | ((with_reducible refine' Wl.out ?_; apply wl_unwanted); (· exact hgW)) | ((with_reducible refine' Wl.out ?_; apply wg_load hS); (· (first | exact Try.underlying2 | exact Try.underlying3 | exact Try.underlying5)); (· exact rfl); (· exact hgW); (· exact rfl); (· (first | (apply Find.box; (· (repeat constructor)); rfl) | exact Find.mem (by assumption) | (apply Find.row; (· (repeat constructor)); assumption)))) | ((with_reducible refine' Wl.out ?_; apply wg_loads hS); (· (first | exact rowT44 | exact rowT118)); (· exact hgW); (· exact rfl); (· (first | (apply Finds.box; (· (repeat constructor)); (· (repeat constructor)); done) | (refine Finds.mem2 (by assumption) ?_; first | rfl | assumption | (simp; done)) | (apply Finds.row; (· (repeat constructor)); (· assumption); (· rfl)))))); clear hgW))
    | ((with_reducible refine' Wl.out ?_; apply wl_store hS); (· (first | exact rowT3 | exact rowT22)); (· exact rfl); (· (first | (go_simp; done) | (go_simp; with_reducible rfl))); (· (first | rfl | assumption | (simp [Value.oneCell']; done))); (· (repeat constructor)); (· (repeat constructor)); (· (repeat constructor)); clear hS; intro ws hS)
    | ((with_reducible refine' Wl.out ?_; apply wl_storeR hS); (· (first | exact rowT3 | exact rowT22)); (· exact rfl); (· (first | (go_simp; done) | (go_simp; with_reducible rfl))); (· (first | rfl | assumption | (simp [Value.oneCell']; done))); (· (repeat constructor)); (· (first | assumption | omega | (simp; omega))); clear hS; intro ws hS)
    | ((with_reducible refine' Wl.out ?_; apply wl_stores hS); (· (first | exact rowT118)); (· exact rfl); (· exact rfl); (· exact rfl); (· (first | assumption | (simp [Value.oneCell']; done))); (· (repeat constructor)); (· (repeat constructor)); (· (repeat constructor)); clear hS; intro ws hS)
    | (go_at_call 24; (fail_if_success (clear Mk38)); refine (letII (pair_c _ _ hS.inw _ _)).mono ?_; rintro e' w38 ⟨_, m38, rfl, ⟨N38, E38, HN38, HE38, rfl⟩, hk⟩; replace hS := hS.call hk; (try replace A0 := Lib.hid (Lay.mono _ hk.le A0.out)); (try replace R20 := Lib.hid (Lay.mono _ hk.le R20.out)); (try replace R28 := Lib.hid (Lay.mono _ hk.le R28.out)); clear hk; replace HE38 := Lib.hid (HE38.out.trans HPE.out); obtain rfl := HE38.out; replace HN38 := Lib.hid (HN38.out.trans HPV.out); obtain rfl := HN38.out; obtain ⟨f0, f1, f2, f3, f4⟩ := FA'.out _ R28.out; have Mk38 := True.intro))
          rw [PC (fun hh => by have := hh.2.2.2; rw [← HY20.out, ← HY28.out, HY.out] at this; simp at this; omega)]
          refine ret_cell_tmp (n := 3) rfl rfl hS (by (repeat constructor)) (by rfl) pieceRow rfl ?_
          exact ⟨_, _, rfl, rfl, hS.done⟩
      · have hx : (N28 != stampOf ⟨b, s, g, p, n⟩) = true := by simp [hN]
        go_wp2_with (first
    | ((with_reducible refine' Wl.out ?_; apply wl_box (ty := 44) (y := (.tmp 0)) hS); (· (first | (go_simp; done) | (go_simp; with_reducible rfl))); (· exact rfl); clear hS; intro w3 b3 hS)
    | ((with_reducible refine' Wl.out ?_; apply wl_box (ty := 70) (y := (.tmp 1)) hS); (· (first | (go_simp; done) | (go_simp; with_reducible rfl))); (· exact rfl); clear hS; intro w4 b4 hS)
    | ((with_reducible refine' Wl.out ?_; apply wl_alloc (ty := 118) (dst := some 6) hS (.agg #[.int .i64 0, .int .i64 0, .slice none 0 0]) [.int .i64 0, .int .i64 0, .slice none 0 0]); (· kernel_rfl); (· rfl); clear hS; intro w6 b6 hS)
    | ((with_reducible refine' Wl.out ?_; apply wl_load hS); (· (first | exact Try.underlying2 | exact Try.underlying3 | exact Try.underlying5)); (· exact rfl); (· exact rfl); (· (first | (apply Find.box; (· (repeat constructor)); rfl) | exact Find.mem (by assumption) | (apply Find.row; (· (repeat constructor)); assumption))))
    | ((with_reducible refine' Wl.out ?_; apply wg_load hS); (· (first | exact Try.underlying2 | exact Try.underlying3 | exact Try.underlying5)); (· exact rfl); (· (first | rfl | (go_simp; done))); (· exact rfl); (· (first | (apply Find.box; (· (repeat constructor)); rfl) | exact Find.mem (by assumption) | (apply Find.row; (· (repeat constructor)); assumption))))
    | ((with_reducible refine' Wl.out ?_; apply wl_loads hS); (· (first | exact rowT44 | exact rowT118)); (· exact rfl); (· (first | (apply Finds.box; (· (repeat constructor)); (· (repeat constructor)); done) | (refine Finds.mem2 (by assumption) ?_; first | rfl | assumption | (simp; done)) | (apply Finds.row; (· (repeat constructor)); (· assumption); (· rfl)))))
    | ((with_reducible refine' Wl.out ?_; apply wg_loads hS); (· (first | exact rowT44 | exact rowT118)); (· (first | rfl | (go_simp; done))); (· exact rfl); (· (first | (apply Finds.box; (· (repeat constructor)); (· (repeat constructor)); done) | (refine Finds.mem2 (by assumption) ?_; first | rfl | assumption | (simp; done)) | (apply Finds.row; (· (repeat constructor)); (· assumption); (· rfl)))))
    | ((with_reducible refine' Wl.out ?_); (with_reducible refine' wg_case ?_ ?_) <;> (intro hgW; (try (have hg2 := hgW; simp [go_sem] at hg2)); (first | (exfalso; assumption) | ((with_reducible refine' Wl.out ?_; apply wl_unwanted); (· exact hgW)) | ((with_reducible refine' Wl.out ?_; apply wg_load hS); (· (first | exact Try.underlying2 | exact Try.underlying3 | exact Try.underlying5)); (· exact rfl); (· exact hgW); (· exact rfl); (· (first | (apply Find.box; (· (repeat constructor)); rfl) | exact Find.mem (by assumption) | (apply Find.row; (· (repeat constructor)); assumption)))) | ((with_reducible refine' Wl.out ?_; apply wg_loads hS); (· (first | exact rowT44 | exact rowT118)); (· exact hgW); (· exact rfl); (· (first | (apply Finds.box; (· (repeat constructor)); (· (repeat constructor)); done) | (refine Finds.mem2 (by assumption) ?_; first | rfl | assumption | (simp; done)) | (apply Finds.row; (· (repeat constructor)); (· assumption); (· rfl)))))); clear hgW))
    | ((with_reducible refine' Wl.out ?_; apply wl_store hS); (· (first | exact rowT3 | exact rowT22)); (· exact rfl); (· (first | (go_simp; done) | (go_simp; with_reducible rfl))); (· (first | rfl | assumption | (simp [Value.oneCell']; done))); (· (repeat constructor)); (· (repeat constructor)); (· (repeat constructor)); clear hS; intro ws hS)
    | ((with_reducible refine' Wl.out ?_; apply wl_storeR hS); (· (first | exact rowT3 | exact rowT22)); (· exact rfl); (· (first | (go_simp; done) | (go_simp; with_reducible rfl))); (· (first | rfl | assumption | (simp [Value.oneCell']; done))); (· (repeat constructor)); (· (first | assumption | omega | (simp; omega))); clear hS; intro ws hS)
    | ((with_reducible refine' Wl.out ?_; apply wl_stores hS); (· (first | exact rowT118)); (· exact rfl); (· exact rfl); (· exact rfl); (· (first | assumption | (simp [Value.oneCell']; done))); (· (repeat constructor)); (· (repeat constructor)); (· (repeat constructor)); clear hS; intro ws hS)
    | (go_at_call 24; (fail_if_success (clear Mk38)); refine (letII (pair_c _ _ hS.inw _ _)).mono ?_; rintro e' w38 ⟨_, m38, rfl, ⟨N38, E38, HN38, HE38, rfl⟩, hk⟩; replace hS := hS.call hk; (try replace A0 := Lib.hid (Lay.mono _ hk.le A0.out)); (try replace R20 := Lib.hid (Lay.mono _ hk.le R20.out)); (try replace R28 := Lib.hid (Lay.mono _ hk.le R28.out)); clear hk; replace HE38 := Lib.hid (HE38.out.trans HPE.out); obtain rfl := HE38.out; replace HN38 := Lib.hid (HN38.out.trans HPV.out); obtain rfl := HN38.out; have Mk38 := True.intro))
        rw [PC (fun hh => hN (by rw [HN28.out, HY20.out]; exact hh.2.2.1))]
        refine ret_cell_tmp (n := 3) rfl rfl hS (by (repeat constructor)) (by rfl) pieceRow rfl ?_
        exact ⟨_, _, rfl, rfl, hS.done⟩
    · have hx : (E28 != 0) = true := by simp [hE]
      go_wp2_with (first
    | ((with_reducible refine' Wl.out ?_; apply wl_box (ty := 44) (y := (.tmp 0)) hS); (· (first | (go_simp; done) | (go_simp; with_reducible rfl))); (· exact rfl); clear hS; intro w3 b3 hS)
    | ((with_reducible refine' Wl.out ?_; apply wl_box (ty := 70) (y := (.tmp 1)) hS); (· (first | (go_simp; done) | (go_simp; with_reducible rfl))); (· exact rfl); clear hS; intro w4 b4 hS)
    | ((with_reducible refine' Wl.out ?_; apply wl_alloc (ty := 118) (dst := some 6) hS (.agg #[.int .i64 0, .int .i64 0, .slice none 0 0]) [.int .i64 0, .int .i64 0, .slice none 0 0]); (· kernel_rfl); (· rfl); clear hS; intro w6 b6 hS)
    | ((with_reducible refine' Wl.out ?_; apply wl_load hS); (· (first | exact Try.underlying2 | exact Try.underlying3 | exact Try.underlying5)); (· exact rfl); (· exact rfl); (· (first | (apply Find.box; (· (repeat constructor)); rfl) | exact Find.mem (by assumption) | (apply Find.row; (· (repeat constructor)); assumption))))
    | ((with_reducible refine' Wl.out ?_; apply wg_load hS); (· (first | exact Try.underlying2 | exact Try.underlying3 | exact Try.underlying5)); (· exact rfl); (· (first | rfl | (go_simp; done))); (· exact rfl); (· (first | (apply Find.box; (· (repeat constructor)); rfl) | exact Find.mem (by assumption) | (apply Find.row; (· (repeat constructor)); assumption))))
    | ((with_reducible refine' Wl.out ?_; apply wl_loads hS); (· (first | exact rowT44 | exact rowT118)); (· exact rfl); (· (first | (apply Finds.box; (· (repeat constructor)); (· (repeat constructor)); done) | (refine Finds.mem2 (by assumption) ?_; first | rfl | assumption | (simp; done)) | (apply Finds.row; (· (repeat constructor)); (· assumption); (· rfl)))))
    | ((with_reducible refine' Wl.out ?_; apply wg_loads hS); (· (first | exact rowT44 | exact rowT118)); (· (first | rfl | (go_simp; done))); (· exact rfl); (· (first | (apply Finds.box; (· (repeat constructor)); (· (repeat constructor)); done) | (refine Finds.mem2 (by assumption) ?_; first | rfl | assumption | (simp; done)) | (apply Finds.row; (· (repeat constructor)); (· assumption); (· rfl)))))
    | ((with_reducible refine' Wl.out ?_); (with_reducible refine' wg_case ?_ ?_) <;> (intro hgW; (try (have hg2 := hgW; simp [go_sem] at hg2)); (first | (exfalso; assumption) | ((with_reducible refine' Wl.out ?_; apply wl_unwanted); (· exact hgW)) | ((with_reducible refine' Wl.out ?_; apply wg_load hS); (· (first | exact Try.underlying2 | exact Try.underlying3 | exact Try.underlying5)); (· exact rfl); (· exact hgW); (· exact rfl); (· (first | (apply Find.box; (· (repeat constructor)); rfl) | exact Find.mem (by assumption) | (apply Find.row; (· (repeat constructor)); assumption)))) | ((with_reducible refine' Wl.out ?_; apply wg_loads hS); (· (first | exact rowT44 | exact rowT118)); (· exact hgW); (· exact rfl); (· (first | (apply Finds.box; (· (repeat constructor)); (· (repeat constructor)); done) | (refine Finds.mem2 (by assumption) ?_; first | rfl | assumption | (simp; done)) | (apply Finds.row; (· (repeat constructor)); (· assumption); (· rfl)))))); clear hgW))
    | ((with_reducible refine' Wl.out ?_; apply wl_store hS); (· (first | exact rowT3 | exact rowT22)); (· exact rfl); (· (first | (go_simp; done) | (go_simp; with_reducible rfl))); (· (first | rfl | assumption | (simp [Value.oneCell']; done))); (· (repeat constructor)); (· (repeat constructor)); (· (repeat constructor)); clear hS; intro ws hS)
    | ((with_reducible refine' Wl.out ?_; apply wl_storeR hS); (· (first | exact rowT3 | exact rowT22)); (· exact rfl); (· (first | (go_simp; done) | (go_simp; with_reducible rfl))); (· (first | rfl | assumption | (simp [Value.oneCell']; done))); (· (repeat constructor)); (· (first | assumption | omega | (simp; omega))); clear hS; intro ws hS)
    | ((with_reducible refine' Wl.out ?_; apply wl_stores hS); (· (first | exact rowT118)); (· exact rfl); (· exact rfl); (· exact rfl); (· (first | assumption | (simp [Value.oneCell']; done))); (· (repeat constructor)); (· (repeat constructor)); (· (repeat constructor)); clear hS; intro ws hS)
    | (go_at_call 24; (fail_if_success (clear Mk38)); refine (letII (pair_c _ _ hS.inw _ _)).mono ?_; rintro e' w38 ⟨_, m38, rfl, ⟨N38, E38, HN38, HE38, rfl⟩, hk⟩; replace hS := hS.call hk; (try replace A0 := Lib.hid (Lay.mono _ hk.le A0.out)); (try replace R20 := Lib.hid (Lay.mono _ hk.le R20.out)); (try replace R28 := Lib.hid (Lay.mono _ hk.le R28.out)); clear hk; replace HE38 := Lib.hid (HE38.out.trans HPE.out); obtain rfl := HE38.out; replace HN38 := Lib.hid (HN38.out.trans HPV.out); obtain rfl := HN38.out; have Mk38 := True.intro))
      rw [PC (fun hh => hE (by rw [HE28.out, HY20.out]; exact hh.2.1))]
      refine ret_cell_tmp (n := 3) rfl rfl hS (by (repeat constructor)) (by rfl) pieceRow rfl ?_
      exact ⟨_, _, rfl, rfl, hS.done⟩
end Go.Proofs.Ytnmgiiaejpaeeaa
/- Reading journals: a group; contract of journal.group. -/
namespace Go.Proofs.Ytnmgiiaejpaeeaa
set_option linter.unusedVariables false
set_option linter.unusedSimpArgs false
open Go.RowKit Go.Shelf
def goodP (i : Nat) (parts at_ many : Int) (n : Nat) : Prop := at_ = i ∧ many = parts ∧ parts ≠ 0 ∧ (n = 11 ∨ ((i : Int) = parts - 1 ∧ (0 < n ∨ parts = 1)))
instance (i : Nat) (parts at_ many : Int) (n : Nat) : Decidable (goodP i parts at_ many n) := by unfold goodP; infer_instance
def partsOf (i : Nat) (parts many : Int) : Int := if i = 0 then many else parts
/-- The parts of a group from the i-th one on. -/
def groupGo (d : Dk) (g : Lg) : Nat → Nat → Int → List Int → Option (List Int × Int)
  | 0, _, _, _ => none
  | f + 1, i, parts, text =>
    if g.pos + i < g.size then
      match pieceR d g (g.pos + i) with
      | none => none
      | some (at_, many, own) =>
        if goodP i (partsOf i parts many) at_ many own.length then
          if (i : Int) + 1 < partsOf i parts many then groupGo d g f (i + 1) (partsOf i parts many) (text ++ own) else some (text ++ own, partsOf i parts many)
        else none
    else none
def groupR (d : Dk) (g : Lg) : Option (List Int × Int) := groupGo d g 4097 0 0 []
def RetGroup (w : World) (m : Mem) : Option (List Int × Int) → Ending → World → Prop
  | none => Ret w m fun v _ => ∃ q n c k, v = .tuple #[.slice q n c, .int .i64 k, .bool false]
  | some (t, k) => Ret w m fun v m' => ∃ q c, v = .tuple #[.slice q t.length c, .int .i64 k, .bool true] ∧ Hid (bytesL.rd m' [.slice q t.length c] t)
theorem go_far {d : Dk} {g : Lg} {f i : Nat} {parts : Int} {text : List Int} (h : ¬ g.pos + i < g.size) : groupGo d g (f + 1) i parts text = none := by rw [groupGo, if_neg h]
theorem go_none {d : Dk} {g : Lg} {f i : Nat} {parts : Int} {text : List Int} (h : g.pos + i < g.size) (hp : pieceR d g (g.pos + i) = none) : groupGo d g (f + 1) i parts text = none := by rw [groupGo, if_pos h, hp]
theorem go_some {d : Dk} {g : Lg} {f i : Nat} {parts at_ many : Int} {text own : List Int} (h : g.pos + i < g.size) (hp : pieceR d g (g.pos + i) = some (at_, many, own)) :
    groupGo d g (f + 1) i parts text = if goodP i (partsOf i parts many) at_ many own.length then if (i : Int) + 1 < partsOf i parts many then groupGo d g f (i + 1) (partsOf i parts many) (text ++ own) else some (text ++ own, partsOf i parts many) else none := by
  rw [groupGo, if_pos h, hp]
section
variable {P : Program} {a : Act} {w : World} {Q : Exit → Act → World → Prop}
theorem wp_scope_jumpsO {c rest : Code} (l : Nat) (J0 : Act → World → Prop) (μ0 : Act → World → Nat) (hf : findLabel c l = some (.seq .skip rest))
    (first : ∀ J, Hid (J = J0) → (∀ a w, J0 a w → rest.wp P (Exit.jump l J Q) a w) → c.wp P (Exit.jump l J Q) a w)
    (pass : ∀ J : Act → Nat → World → Prop, Hid (∀ a n w, J a n w ↔ J0 a w ∧ μ0 a w < n) → ∀ a w n, J0 a w → n = μ0 a w → rest.wp P (Exit.jump l (fun a' w' => J a' n w') Q) a w) : (Code.scope c).wp P Q a w :=
  have hp' : ∀ a w, J0 a w → rest.wp P (Exit.jump l (fun a' w' => J0 a' w' ∧ μ0 a' w' < μ0 a w) Q) a w := fun a w h =>
    wp_mono (pass (fun a' n w' => J0 a' w' ∧ μ0 a' w' < n) (Lib.hid fun _ _ _ => Iff.rfl) a w _ h rfl) fun e a' w' q => q
  have hp : ∀ a w, J0 a w → (Code.seq .skip rest).wp P (Exit.jump l (fun a' w' => J0 a' w' ∧ μ0 a' w' < μ0 a w) Q) a w := fun a w h => wp_seq (wp_skip (hp' a w h))
  wp_scope_jumps l J0 μ0 hf (first J0 rfl fun a w h => wp_mono (hp' a w h) fun e a' w' q => by cases e <;> first | exact q | exact ⟨q.1, q.2.1⟩) hp
end
set_option maxRecDepth 100000 in
set_option maxHeartbeats 8000000 in
theorem jgroup_c (m : Mem) (w : World) (hm : m.In w) (cs : List Value) (d : Dk) (hd : dkL.rd m cs d) (b s g p n : Int) (hg : lgOK ⟨b, s, g, p, n⟩) :
    Calls Try.prog 91 #[.agg cs.toArray, .agg ([.int .i64 b, .int .i64 s, .int .i64 g, .int .i64 p, .int .i64 n] : List Value).toArray] w (RetGroup w m (groupR d ⟨b, s, g, p, n⟩)) := by
  obtain ⟨p0, c0, q0, a0, rfl, A0⟩ := dkL_cells hd
  have hS := St.start hm
  have HG := Lib.hid hg
  obtain ⟨g1, g2, g3, g4, g5, g6, g7, g8, g9, g10⟩ := hg
  simp only at g1 g2 g3 g4 g5 g6 g7 g8 g9 g10
  clear hd
  obtain ⟨R, hR⟩ : ∃ R, R = groupR d ⟨b, s, g, p, n⟩ := ⟨_, rfl⟩
  rw [← hR]
  have HR := Lib.hid hR
  clear hR
  go_enter Try.func91, Try.ntmps91
  go_wp2_with (first
    | ((with_reducible refine' Wl.out ?_; apply wl_box (ty := 44) (y := (.tmp 0)) hS); (· (first | (go_simp; done) | (go_simp; with_reducible rfl))); (· exact rfl); clear hS; intro w2 b2 hS)
    | ((with_reducible refine' Wl.out ?_; apply wl_box (ty := 70) (y := (.tmp 1)) hS); (· (first | (go_simp; done) | (go_simp; with_reducible rfl))); (· exact rfl); clear hS; intro w3 b3 hS)
    | ((with_reducible refine' Wl.out ?_; apply wl_alloc (ty := 118) (dst := some 8) hS (.agg #[.int .i64 0, .int .i64 0, .slice none 0 0]) [.int .i64 0, .int .i64 0, .slice none 0 0]); (· kernel_rfl); (· rfl); clear hS; intro w8 b8 hS)
    | ((with_reducible refine' Wl.out ?_; apply wl_load hS); (· (first | exact Try.underlying3 | exact Try.underlying22)); (· exact rfl); (· exact rfl); (· (first | (apply Find.box; (· (repeat constructor)); rfl) | exact Find.mem (by assumption) | (apply Find.row; (· (repeat constructor)); assumption))))
    | ((with_reducible refine' Wl.out ?_; apply wg_load hS); (· (first | exact Try.underlying3 | exact Try.underlying22)); (· exact rfl); (· (first | rfl | (go_simp; done))); (· exact rfl); (· (first | (apply Find.box; (· (repeat constructor)); rfl) | exact Find.mem (by assumption) | (apply Find.row; (· (repeat constructor)); assumption))))
    | ((with_reducible refine' Wl.out ?_; apply wl_loads hS); (· (first | exact rowT44 | exact rowT70)); (· exact rfl); (· (first | (apply Finds.box; (· (repeat constructor)); (· (repeat constructor)); done) | (refine Finds.mem2 (by assumption) ?_; first | rfl | assumption | (simp; done)) | (apply Finds.row; (· (repeat constructor)); (· assumption); (· rfl)))))
    | ((with_reducible refine' Wl.out ?_; apply wg_loads hS); (· (first | exact rowT44 | exact rowT70)); (· (first | rfl | (go_simp; done))); (· exact rfl); (· (first | (apply Finds.box; (· (repeat constructor)); (· (repeat constructor)); done) | (refine Finds.mem2 (by assumption) ?_; first | rfl | assumption | (simp; done)) | (apply Finds.row; (· (repeat constructor)); (· assumption); (· rfl)))))
    | ((with_reducible refine' Wl.out ?_); (with_reducible refine' wg_case ?_ ?_) <;> (intro hgW; (try (have hg2 := hgW; simp [go_sem] at hg2)); (first | (exfalso; assumption) | ((with_reducible refine' Wl.out ?_; apply wl_unwanted); (· exact hgW)) | ((with_reducible refine' Wl.out ?_; apply wg_load hS); (· (first | exact Try.underlying3 | exact Try.underlying22)); (· exact rfl); (· exact hgW); (· exact rfl); (· (first | (apply Find.box; (· (repeat constructor)); rfl) | exact Find.mem (by assumption) | (apply Find.row; (· (repeat constructor)); assumption)))) | ((with_reducible refine' Wl.out ?_; apply wg_loads hS); (· (first | exact rowT44 | exact rowT70)); (· exact hgW); (· exact rfl); (· (first | (apply Finds.box; (· (repeat constructor)); (· (repeat constructor)); done) | (refine Finds.mem2 (by assumption) ?_; first | rfl | assumption | (simp; done)) | (apply Finds.row; (· (repeat constructor)); (· assumption); (· rfl)))))); clear hgW))
    | ((with_reducible refine' Wl.out ?_; apply wl_stores hS); (· (first | exact rowT118)); (· exact rfl); (· exact rfl); (· exact rfl); (· (first | assumption | (simp [Value.oneCell']; done))); (· (repeat constructor)); (· (repeat constructor)); (· (repeat constructor)); clear hS; intro ws hS))
  replace hS := hS.nilRow 5 1
  refine wp_scope_jumpsO 0 (fun a' wr => ∃ (i : Nat) (parts : Int) (q : Option Addr) (c : Nat) (text : List Int) (m' : Mem) (u8 u9 u10 u11 u12 u13 u14 u15 u16 u17 u18 u19 u20 u21 u22 u23 u24 u25 u26 u27 u28 u29 u30 u31 u32 u33 u34 u35 u36 u37 u38 u39 u40 u41 u42 u43 u44 u45 u46 u47 u48 u49 u50 u51 u52 u53 u54 u55 u56 u57 u58 u59 u60 u61 u62 u63 u64 u65 u66 u67 u68 u69 u70 u71 u72 u73 u74 u75 u76 u77 u78 u79 u80 u81 u82 u83 u84 : Value), a' = { tmps := #[.agg ([.slice p0 d.dry.length c0, .slice q0 d.wet.length a0, .int .i64 d.fuse, .bool d.dead] : List Value).toArray, .agg ([.int .i64 b, .int .i64 s, .int .i64 g, .int .i64 p, .int .i64 n] : List Value).toArray, .pointer (some ⟨b2, 0, none⟩), .pointer (some ⟨b3, 0, none⟩), .slice q text.length c, .int .i64 parts, .bool false, .int .i64 i, u8, u9, u10, u11, u12, u13, u14, u15, u16, u17, u18, u19, u20, u21, u22, u23, u24, u25, u26, u27, u28, u29, u30, u31, u32, u33, u34, u35, u36, u37, u38, u39, u40, u41, u42, u43, u44, u45, u46, u47, u48, u49, u50, u51, u52, u53, u54, u55, u56, u57, u58, u59, u60, u61, u62, u63, u64, u65, u66, u67, u68, u69, u70, u71, u72, u73, u74, u75, u76, u77, u78, u79, u80, u81, u82, u83, u84], defers := [] } ∧
      (i ≤ 4096 ∧ text.length ≤ 11 * i ∧ 0 ≤ parts ∧ parts ≤ 65535) ∧ Hid (groupGo d ⟨b, s, g, p, n⟩ (4097 - i) i parts text = R) ∧ Hid (dkL.rd m' [.slice p0 d.dry.length c0, .slice q0 d.wet.length a0, .int .i64 d.fuse, .bool d.dead] d) ∧ Hid (∀ x ∈ text, InK .u8 x) ∧
      St [] w m wr [.row 5 1 (.slice q text.length c) text.length (text.map (.int .u8)), .box b3 [.int .i64 b, .int .i64 s, .int .i64 g, .int .i64 p, .int .i64 n], .box b2 [.slice p0 d.dry.length c0, .slice q0 d.wet.length a0, .int .i64 d.fuse, .bool d.dead]] m') (fun a' _ => 4097 - (intOf (a'.tmps.getD 7 undef)).toNat) rfl ?_ ?_
  · intro J HJ hpass
    go_wp2_with fail
    go_step3
    go_step
    rename_i K hK
    refine hK _ _ (hpass _ _ ?_)
    refine ⟨0, 0, none, 0, [], m, ?_⟩
    (repeat apply Exists.intro)
    refine ⟨rfl, ⟨by omega, by simp, by omega, by omega⟩, HR.out.symm, A0, Lib.hid (fun x hx => by simp at hx), hS⟩
  · intro J HJ a' wr nn hJ hnn
    obtain ⟨i, parts, q, c, text, m', hJ⟩ := hJ
    obtain ⟨u8, hJ⟩ := hJ
    obtain ⟨u9, hJ⟩ := hJ
    obtain ⟨u10, hJ⟩ := hJ
    obtain ⟨u11, hJ⟩ := hJ
    obtain ⟨u12, hJ⟩ := hJ
    obtain ⟨u13, hJ⟩ := hJ
    obtain ⟨u14, hJ⟩ := hJ
    obtain ⟨u15, hJ⟩ := hJ
    obtain ⟨u16, hJ⟩ := hJ
    obtain ⟨u17, hJ⟩ := hJ
    obtain ⟨u18, hJ⟩ := hJ
    obtain ⟨u19, hJ⟩ := hJ
    obtain ⟨u20, hJ⟩ := hJ
    obtain ⟨u21, hJ⟩ := hJ
    obtain ⟨u22, hJ⟩ := hJ
    obtain ⟨u23, hJ⟩ := hJ
    obtain ⟨u24, hJ⟩ := hJ
    obtain ⟨u25, hJ⟩ := hJ
    obtain ⟨u26, hJ⟩ := hJ
    obtain ⟨u27, hJ⟩ := hJ
    obtain ⟨u28, hJ⟩ := hJ
    obtain ⟨u29, hJ⟩ := hJ
    obtain ⟨u30, hJ⟩ := hJ
    obtain ⟨u31, hJ⟩ := hJ
    obtain ⟨u32, hJ⟩ := hJ
    obtain ⟨u33, hJ⟩ := hJ
    obtain ⟨u34, hJ⟩ := hJ
    obtain ⟨u35, hJ⟩ := hJ
    obtain ⟨u36, hJ⟩ := hJ
    obtain ⟨u37, hJ⟩ := hJ
    obtain ⟨u38, hJ⟩ := hJ
    obtain ⟨u39, hJ⟩ := hJ
    obtain ⟨u40, hJ⟩ := hJ
    obtain ⟨u41, hJ⟩ := hJ
    obtain ⟨u42, hJ⟩ := hJ
    obtain ⟨u43, hJ⟩ := hJ
    obtain ⟨u44, hJ⟩ := hJ
    obtain ⟨u45, hJ⟩ := hJ
    obtain ⟨u46, hJ⟩ := hJ
    obtain ⟨u47, hJ⟩ := hJ
    obtain ⟨u48, hJ⟩ := hJ
    obtain ⟨u49, hJ⟩ := hJ
    obtain ⟨u50, hJ⟩ := hJ
    obtain ⟨u51, hJ⟩ := hJ
    obtain ⟨u52, hJ⟩ := hJ
    obtain ⟨u53, hJ⟩ := hJ
    obtain ⟨u54, hJ⟩ := hJ
    obtain ⟨u55, hJ⟩ := hJ
    obtain ⟨u56, hJ⟩ := hJ
    obtain ⟨u57, hJ⟩ := hJ
    obtain ⟨u58, hJ⟩ := hJ
    obtain ⟨u59, hJ⟩ := hJ
    obtain ⟨u60, hJ⟩ := hJ
    obtain ⟨u61, hJ⟩ := hJ
    obtain ⟨u62, hJ⟩ := hJ
    obtain ⟨u63, hJ⟩ := hJ
    obtain ⟨u64, hJ⟩ := hJ
    obtain ⟨u65, hJ⟩ := hJ
    obtain ⟨u66, hJ⟩ := hJ
    obtain ⟨u67, hJ⟩ := hJ
    obtain ⟨u68, hJ⟩ := hJ
    obtain ⟨u69, hJ⟩ := hJ
    obtain ⟨u70, hJ⟩ := hJ
    obtain ⟨u71, hJ⟩ := hJ
    obtain ⟨u72, hJ⟩ := hJ
    obtain ⟨u73, hJ⟩ := hJ
    obtain ⟨u74, hJ⟩ := hJ
    obtain ⟨u75, hJ⟩ := hJ
    obtain ⟨u76, hJ⟩ := hJ
    obtain ⟨u77, hJ⟩ := hJ
    obtain ⟨u78, hJ⟩ := hJ
    obtain ⟨u79, hJ⟩ := hJ
    obtain ⟨u80, hJ⟩ := hJ
    obtain ⟨u81, hJ⟩ := hJ
    obtain ⟨u82, hJ⟩ := hJ
    obtain ⟨u83, hJ⟩ := hJ
    obtain ⟨u84, hJ⟩ := hJ
    obtain ⟨ha, ⟨i1, i2, i3, i4⟩, HGO, A1, HK, hS1⟩ := hJ
    subst ha
    have HN : Hid (nn = 4097 - i) := hnn
    clear hnn
    clear hS A0
    have hS := hS1
    clear hS1 HR
    have hE0 : 4097 - i = (4096 - i) + 1 := by omega
    have HGO' := HGO.out.symm
    rw [hE0] at HGO'
    have ew0 : IntKind.i64.wrap (p + i) = p + i := IntWalk.i64_in _ (by omega)
    by_cases hs : p + i < s
    · cases hp : pieceR d ⟨b, s, g, p, n⟩ (p + i) with
      | none =>
        have hR : R = none := HGO'.trans (go_none (g := ⟨b, s, g, p, n⟩) hs hp)
        have HP := Lib.hid hp
        have HR := Lib.hid hR
        clear hp hR HGO HGO'
        go_wp2_with (first
    | ((with_reducible refine' Wl.out ?_; apply wl_box (ty := 44) (y := (.tmp 0)) hS); (· (first | (go_simp; done) | (go_simp; with_reducible rfl))); (· exact rfl); clear hS; intro w2 b2 hS)
    | ((with_reducible refine' Wl.out ?_; apply wl_box (ty := 70) (y := (.tmp 1)) hS); (· (first | (go_simp; done) | (go_simp; with_reducible rfl))); (· exact rfl); clear hS; intro w3 b3 hS)
    | ((with_reducible refine' Wl.out ?_; apply wl_alloc (ty := 118) (dst := some 8) hS (.agg #[.int .i64 0, .int .i64 0, .slice none 0 0]) [.int .i64 0, .int .i64 0, .slice none 0 0]); (· kernel_rfl); (· rfl); clear hS; intro w8 b8 hS)
    | ((with_reducible refine' Wl.out ?_; apply wl_load hS); (· (first | exact Try.underlying3 | exact Try.underlying22)); (· exact rfl); (· exact rfl); (· (first | (apply Find.box; (· (repeat constructor)); rfl) | exact Find.mem (by assumption) | (apply Find.row; (· (repeat constructor)); assumption))))
    | ((with_reducible refine' Wl.out ?_; apply wg_load hS); (· (first | exact Try.underlying3 | exact Try.underlying22)); (· exact rfl); (· (first | rfl | (go_simp; done))); (· exact rfl); (· (first | (apply Find.box; (· (repeat constructor)); rfl) | exact Find.mem (by assumption) | (apply Find.row; (· (repeat constructor)); assumption))))
    | ((with_reducible refine' Wl.out ?_; apply wl_loads hS); (· (first | exact rowT44 | exact rowT70)); (· exact rfl); (· (first | (apply Finds.box; (· (repeat constructor)); (· (repeat constructor)); done) | (refine Finds.mem2 (by assumption) ?_; first | rfl | assumption | (simp; done)) | (apply Finds.row; (· (repeat constructor)); (· assumption); (· rfl)))))
    | ((with_reducible refine' Wl.out ?_; apply wg_loads hS); (· (first | exact rowT44 | exact rowT70)); (· (first | rfl | (go_simp; done))); (· exact rfl); (· (first | (apply Finds.box; (· (repeat constructor)); (· (repeat constructor)); done) | (refine Finds.mem2 (by assumption) ?_; first | rfl | assumption | (simp; done)) | (apply Finds.row; (· (repeat constructor)); (· assumption); (· rfl)))))
    | ((with_reducible refine' Wl.out ?_); (with_reducible refine' wg_case ?_ ?_) <;> (intro hgW; (try (have hg2 := hgW; simp [go_sem] at hg2)); (first | (exfalso; assumption) | ((with_reducible refine' Wl.out ?_; apply wl_unwanted); (· exact hgW)) | ((with_reducible refine' Wl.out ?_; apply wg_load hS); (· (first | exact Try.underlying3 | exact Try.underlying22)); (· exact rfl); (· exact hgW); (· exact rfl); (· (first | (apply Find.box; (· (repeat constructor)); rfl) | exact Find.mem (by assumption) | (apply Find.row; (· (repeat constructor)); assumption)))) | ((with_reducible refine' Wl.out ?_; apply wg_loads hS); (· (first | exact rowT44 | exact rowT70)); (· exact hgW); (· exact rfl); (· (first | (apply Finds.box; (· (repeat constructor)); (· (repeat constructor)); done) | (refine Finds.mem2 (by assumption) ?_; first | rfl | assumption | (simp; done)) | (apply Finds.row; (· (repeat constructor)); (· assumption); (· rfl)))))); clear hgW))
    | ((with_reducible refine' Wl.out ?_; apply wl_stores hS); (· (first | exact rowT118)); (· exact rfl); (· exact rfl); (· exact rfl); (· (first | assumption | (simp [Value.oneCell']; done))); (· (repeat constructor)); (· (repeat constructor)); (· (repeat constructor)); clear hS; intro ws hS)
          | (go_at_call 97; refine (jpiece_c _ _ hS.inw _ _ A1.out _ _ _ _ _ HG.out (p + i) (by omega) (by omega)).mono ?_; rw [HP.out]; rintro e' w25 ⟨_, m25, rfl, rfl, hk⟩; replace hS := hS.call hk; clear hk))
        all_goals
          simp only [Exit.jump]
          rw [HR.out]
          go_ret3
          exact ⟨_, _, rfl, ⟨_, _, _, _, rfl⟩, hS.done⟩
      | some x =>
        obtain ⟨at_, many, own⟩ := x
        have hR := HGO'.trans (go_some (g := ⟨b, s, g, p, n⟩) hs hp)
        have HP := Lib.hid hp
        have HR := Lib.hid hR
        clear hp hR HGO HGO'
        obtain ⟨pp, hpp⟩ : ∃ pp, pp = partsOf i parts many := ⟨_, rfl⟩
        have HPP := Lib.hid hpp
        rw [← hpp] at HR
        clear hpp
        go_upto_if 29 with (first
    | ((with_reducible refine' Wl.out ?_; apply wl_box (ty := 44) (y := (.tmp 0)) hS); (· (first | (go_simp; done) | (go_simp; with_reducible rfl))); (· exact rfl); clear hS; intro w2 b2 hS)
    | ((with_reducible refine' Wl.out ?_; apply wl_box (ty := 70) (y := (.tmp 1)) hS); (· (first | (go_simp; done) | (go_simp; with_reducible rfl))); (· exact rfl); clear hS; intro w3 b3 hS)
    | ((with_reducible refine' Wl.out ?_; apply wl_alloc (ty := 118) (dst := some 8) hS (.agg #[.int .i64 0, .int .i64 0, .slice none 0 0]) [.int .i64 0, .int .i64 0, .slice none 0 0]); (· kernel_rfl); (· rfl); clear hS; intro w8 b8 hS)
    | ((with_reducible refine' Wl.out ?_; apply wl_load hS); (· (first | exact Try.underlying3 | exact Try.underlying22)); (· exact rfl); (· exact rfl); (· (first | (apply Find.box; (· (repeat constructor)); rfl) | exact Find.mem (by assumption) | (apply Find.row; (· (repeat constructor)); assumption))))
    | ((with_reducible refine' Wl.out ?_; apply wg_load hS); (· (first | exact Try.underlying3 | exact Try.underlying22)); (· exact rfl); (· (first | rfl | (go_simp; done))); (· exact rfl); (· (first | (apply Find.box; (· (repeat constructor)); rfl) | exact Find.mem (by assumption) | (apply Find.row; (· (repeat constructor)); assumption))))
    | ((with_reducible refine' Wl.out ?_; apply wl_loads hS); (· (first | exact rowT44 | exact rowT70)); (· exact rfl); (· (first | (apply Finds.box; (· (repeat constructor)); (· (repeat constructor)); done) | (refine Finds.mem2 (by assumption) ?_; first | rfl | assumption | (simp; done)) | (apply Finds.row; (· (repeat constructor)); (· assumption); (· rfl)))))
    | ((with_reducible refine' Wl.out ?_; apply wg_loads hS); (· (first | exact rowT44 | exact rowT70)); (· (first | rfl | (go_simp; done))); (· exact rfl); (· (first | (apply Finds.box; (· (repeat constructor)); (· (repeat constructor)); done) | (refine Finds.mem2 (by assumption) ?_; first | rfl | assumption | (simp; done)) | (apply Finds.row; (· (repeat constructor)); (· assumption); (· rfl)))))
    | ((with_reducible refine' Wl.out ?_); (with_reducible refine' wg_case ?_ ?_) <;> (intro hgW; (try (have hg2 := hgW; simp [go_sem] at hg2)); (first | (exfalso; assumption) | ((with_reducible refine' Wl.out ?_; apply wl_unwanted); (· exact hgW)) | ((with_reducible refine' Wl.out ?_; apply wg_load hS); (· (first | exact Try.underlying3 | exact Try.underlying22)); (· exact rfl); (· exact hgW); (· exact rfl); (· (first | (apply Find.box; (· (repeat constructor)); rfl) | exact Find.mem (by assumption) | (apply Find.row; (· (repeat constructor)); assumption)))) | ((with_reducible refine' Wl.out ?_; apply wg_loads hS); (· (first | exact rowT44 | exact rowT70)); (· exact hgW); (· exact rfl); (· (first | (apply Finds.box; (· (repeat constructor)); (· (repeat constructor)); done) | (refine Finds.mem2 (by assumption) ?_; first | rfl | assumption | (simp; done)) | (apply Finds.row; (· (repeat constructor)); (· assumption); (· rfl)))))); clear hgW))
    | ((with_reducible refine' Wl.out ?_; apply wl_stores hS); (· (first | exact rowT118)); (· exact rfl); (· exact rfl); (· exact rfl); (· (first | assumption | (simp [Value.oneCell']; done))); (· (repeat constructor)); (· (repeat constructor)); (· (repeat constructor)); clear hS; intro ws hS)
          | (go_at_call 97; refine (jpiece_c _ _ hS.inw _ _ A1.out _ _ _ _ _ HG.out (p + i) (by omega) (by omega)).mono ?_; rw [HP.out]; rintro e' w25 ⟨_, m25, rfl, ⟨q25, c25, rfl, R25, B25⟩, hk⟩; replace hS := hS.call hk; replace A1 := Lib.hid (Lay.mono _ hk.le A1.out); clear hk; obtain ⟨z1, z2, z3, z4, z5⟩ := B25.out))
        generalize hol : own.length = ol at hS R25 z5 HR B25 ⊢
        have HOL := Lib.hid hol
        clear hol
        go_cut [5] from 10 (fun v5 wc => v5 = .int .i64 pp ∧ wc = ws)
        case first =>
          go_wp2_with (first
    | ((with_reducible refine' Wl.out ?_; apply wl_box (ty := 44) (y := (.tmp 0)) hS); (· (first | (go_simp; done) | (go_simp; with_reducible rfl))); (· exact rfl); clear hS; intro w2 b2 hS)
    | ((with_reducible refine' Wl.out ?_; apply wl_box (ty := 70) (y := (.tmp 1)) hS); (· (first | (go_simp; done) | (go_simp; with_reducible rfl))); (· exact rfl); clear hS; intro w3 b3 hS)
    | ((with_reducible refine' Wl.out ?_; apply wl_alloc (ty := 118) (dst := some 8) hS (.agg #[.int .i64 0, .int .i64 0, .slice none 0 0]) [.int .i64 0, .int .i64 0, .slice none 0 0]); (· kernel_rfl); (· rfl); clear hS; intro w8 b8 hS)
    | ((with_reducible refine' Wl.out ?_; apply wl_load hS); (· (first | exact Try.underlying3 | exact Try.underlying22)); (· exact rfl); (· exact rfl); (· (first | (apply Find.box; (· (repeat constructor)); rfl) | exact Find.mem (by assumption) | (apply Find.row; (· (repeat constructor)); assumption))))
    | ((with_reducible refine' Wl.out ?_; apply wg_load hS); (· (first | exact Try.underlying3 | exact Try.underlying22)); (· exact rfl); (· (first | rfl | (go_simp; done))); (· exact rfl); (· (first | (apply Find.box; (· (repeat constructor)); rfl) | exact Find.mem (by assumption) | (apply Find.row; (· (repeat constructor)); assumption))))
    | ((with_reducible refine' Wl.out ?_; apply wl_loads hS); (· (first | exact rowT44 | exact rowT70)); (· exact rfl); (· (first | (apply Finds.box; (· (repeat constructor)); (· (repeat constructor)); done) | (refine Finds.mem2 (by assumption) ?_; first | rfl | assumption | (simp; done)) | (apply Finds.row; (· (repeat constructor)); (· assumption); (· rfl)))))
    | ((with_reducible refine' Wl.out ?_; apply wg_loads hS); (· (first | exact rowT44 | exact rowT70)); (· (first | rfl | (go_simp; done))); (· exact rfl); (· (first | (apply Finds.box; (· (repeat constructor)); (· (repeat constructor)); done) | (refine Finds.mem2 (by assumption) ?_; first | rfl | assumption | (simp; done)) | (apply Finds.row; (· (repeat constructor)); (· assumption); (· rfl)))))
    | ((with_reducible refine' Wl.out ?_); (with_reducible refine' wg_case ?_ ?_) <;> (intro hgW; (try (have hg2 := hgW; simp [go_sem] at hg2)); (first | (exfalso; assumption) | ((with_reducible refine' Wl.out ?_; apply wl_unwanted); (· exact hgW)) | ((with_reducible refine' Wl.out ?_; apply wg_load hS); (· (first | exact Try.underlying3 | exact Try.underlying22)); (· exact rfl); (· exact hgW); (· exact rfl); (· (first | (apply Find.box; (· (repeat constructor)); rfl) | exact Find.mem (by assumption) | (apply Find.row; (· (repeat constructor)); assumption)))) | ((with_reducible refine' Wl.out ?_; apply wg_loads hS); (· (first | exact rowT44 | exact rowT70)); (· exact hgW); (· exact rfl); (· (first | (apply Finds.box; (· (repeat constructor)); (· (repeat constructor)); done) | (refine Finds.mem2 (by assumption) ?_; first | rfl | assumption | (simp; done)) | (apply Finds.row; (· (repeat constructor)); (· assumption); (· rfl)))))); clear hgW))
    | ((with_reducible refine' Wl.out ?_; apply wl_stores hS); (· (first | exact rowT118)); (· exact rfl); (· exact rfl); (· exact rfl); (· (first | assumption | (simp [Value.oneCell']; done))); (· (repeat constructor)); (· (repeat constructor)); (· (repeat constructor)); clear hS; intro ws hS))
          all_goals
            go_meet
            case rel => refine ⟨?_, rfl⟩; rw [HPP.out, partsOf]; simp_all
        case rest =>
          obtain ⟨rfl, rfl⟩ := hcut
          obtain ⟨pb1, pb2⟩ : 0 ≤ pp ∧ pp ≤ 65535 := by rw [HPP.out, partsOf]; split <;> omega
          go_upto_region 7 with (first
    | ((with_reducible refine' Wl.out ?_; apply wl_box (ty := 44) (y := (.tmp 0)) hS); (· (first | (go_simp; done) | (go_simp; with_reducible rfl))); (· exact rfl); clear hS; intro w2 b2 hS)
    | ((with_reducible refine' Wl.out ?_; apply wl_box (ty := 70) (y := (.tmp 1)) hS); (· (first | (go_simp; done) | (go_simp; with_reducible rfl))); (· exact rfl); clear hS; intro w3 b3 hS)
    | ((with_reducible refine' Wl.out ?_; apply wl_alloc (ty := 118) (dst := some 8) hS (.agg #[.int .i64 0, .int .i64 0, .slice none 0 0]) [.int .i64 0, .int .i64 0, .slice none 0 0]); (· kernel_rfl); (· rfl); clear hS; intro w8 b8 hS)
    | ((with_reducible refine' Wl.out ?_; apply wl_load hS); (· (first | exact Try.underlying3 | exact Try.underlying22)); (· exact rfl); (· exact rfl); (· (first | (apply Find.box; (· (repeat constructor)); rfl) | exact Find.mem (by assumption) | (apply Find.row; (· (repeat constructor)); assumption))))
    | ((with_reducible refine' Wl.out ?_; apply wg_load hS); (· (first | exact Try.underlying3 | exact Try.underlying22)); (· exact rfl); (· (first | rfl | (go_simp; done))); (· exact rfl); (· (first | (apply Find.box; (· (repeat constructor)); rfl) | exact Find.mem (by assumption) | (apply Find.row; (· (repeat constructor)); assumption))))
    | ((with_reducible refine' Wl.out ?_; apply wl_loads hS); (· (first | exact rowT44 | exact rowT70)); (· exact rfl); (· (first | (apply Finds.box; (· (repeat constructor)); (· (repeat constructor)); done) | (refine Finds.mem2 (by assumption) ?_; first | rfl | assumption | (simp; done)) | (apply Finds.row; (· (repeat constructor)); (· assumption); (· rfl)))))
    | ((with_reducible refine' Wl.out ?_; apply wg_loads hS); (· (first | exact rowT44 | exact rowT70)); (· (first | rfl | (go_simp; done))); (· exact rfl); (· (first | (apply Finds.box; (· (repeat constructor)); (· (repeat constructor)); done) | (refine Finds.mem2 (by assumption) ?_; first | rfl | assumption | (simp; done)) | (apply Finds.row; (· (repeat constructor)); (· assumption); (· rfl)))))
    | ((with_reducible refine' Wl.out ?_); (with_reducible refine' wg_case ?_ ?_) <;> (intro hgW; (try (have hg2 := hgW; simp [go_sem] at hg2)); (first | (exfalso; assumption) | ((with_reducible refine' Wl.out ?_; apply wl_unwanted); (· exact hgW)) | ((with_reducible refine' Wl.out ?_; apply wg_load hS); (· (first | exact Try.underlying3 | exact Try.underlying22)); (· exact rfl); (· exact hgW); (· exact rfl); (· (first | (apply Find.box; (· (repeat constructor)); rfl) | exact Find.mem (by assumption) | (apply Find.row; (· (repeat constructor)); assumption)))) | ((with_reducible refine' Wl.out ?_; apply wg_loads hS); (· (first | exact rowT44 | exact rowT70)); (· exact hgW); (· exact rfl); (· (first | (apply Finds.box; (· (repeat constructor)); (· (repeat constructor)); done) | (refine Finds.mem2 (by assumption) ?_; first | rfl | assumption | (simp; done)) | (apply Finds.row; (· (repeat constructor)); (· assumption); (· rfl)))))); clear hgW))
    | ((with_reducible refine' Wl.out ?_; apply wl_stores hS); (· (first | exact rowT118)); (· exact rfl); (· exact rfl); (· exact rfl); (· (first | assumption | (simp [Value.oneCell']; done))); (· (repeat constructor)); (· (repeat constructor)); (· (repeat constructor)); clear hS; intro ws hS))
          obtain ⟨F, hF⟩ : ∃ F : Bool, F = decide (ol = 11 ∨ ((i : Int) = pp - 1 ∧ (0 < ol ∨ pp = 1))) := ⟨_, rfl⟩
          have HF := Lib.hid hF
          clear hF
          go_cut [5, 7, 10] from 11 (fun v5 v7 v10 wx => v5 = .int .i64 pp ∧ v7 = .int .i64 i ∧ v10 = .bool F ∧ wx = wc)
          case first =>
            go_wp2_with (first
    | ((with_reducible refine' Wl.out ?_; apply wl_box (ty := 44) (y := (.tmp 0)) hS); (· (first | (go_simp; done) | (go_simp; with_reducible rfl))); (· exact rfl); clear hS; intro w2 b2 hS)
    | ((with_reducible refine' Wl.out ?_; apply wl_box (ty := 70) (y := (.tmp 1)) hS); (· (first | (go_simp; done) | (go_simp; with_reducible rfl))); (· exact rfl); clear hS; intro w3 b3 hS)
    | ((with_reducible refine' Wl.out ?_; apply wl_alloc (ty := 118) (dst := some 8) hS (.agg #[.int .i64 0, .int .i64 0, .slice none 0 0]) [.int .i64 0, .int .i64 0, .slice none 0 0]); (· kernel_rfl); (· rfl); clear hS; intro w8 b8 hS)
    | ((with_reducible refine' Wl.out ?_; apply wl_load hS); (· (first | exact Try.underlying3 | exact Try.underlying22)); (· exact rfl); (· exact rfl); (· (first | (apply Find.box; (· (repeat constructor)); rfl) | exact Find.mem (by assumption) | (apply Find.row; (· (repeat constructor)); assumption))))
    | ((with_reducible refine' Wl.out ?_; apply wg_load hS); (· (first | exact Try.underlying3 | exact Try.underlying22)); (· exact rfl); (· (first | rfl | (go_simp; done))); (· exact rfl); (· (first | (apply Find.box; (· (repeat constructor)); rfl) | exact Find.mem (by assumption) | (apply Find.row; (· (repeat constructor)); assumption))))
    | ((with_reducible refine' Wl.out ?_; apply wl_loads hS); (· (first | exact rowT44 | exact rowT70)); (· exact rfl); (· (first | (apply Finds.box; (· (repeat constructor)); (· (repeat constructor)); done) | (refine Finds.mem2 (by assumption) ?_; first | rfl | assumption | (simp; done)) | (apply Finds.row; (· (repeat constructor)); (· assumption); (· rfl)))))
    | ((with_reducible refine' Wl.out ?_; apply wg_loads hS); (· (first | exact rowT44 | exact rowT70)); (· (first | rfl | (go_simp; done))); (· exact rfl); (· (first | (apply Finds.box; (· (repeat constructor)); (· (repeat constructor)); done) | (refine Finds.mem2 (by assumption) ?_; first | rfl | assumption | (simp; done)) | (apply Finds.row; (· (repeat constructor)); (· assumption); (· rfl)))))
    | ((with_reducible refine' Wl.out ?_); (with_reducible refine' wg_case ?_ ?_) <;> (intro hgW; (try (have hg2 := hgW; simp [go_sem] at hg2)); (first | (exfalso; assumption) | ((with_reducible refine' Wl.out ?_; apply wl_unwanted); (· exact hgW)) | ((with_reducible refine' Wl.out ?_; apply wg_load hS); (· (first | exact Try.underlying3 | exact Try.underlying22)); (· exact rfl); (· exact hgW); (· exact rfl); (· (first | (apply Find.box; (· (repeat constructor)); rfl) | exact Find.mem (by assumption) | (apply Find.row; (· (repeat constructor)); assumption)))) | ((with_reducible refine' Wl.out ?_; apply wg_loads hS); (· (first | exact rowT44 | exact rowT70)); (· exact hgW); (· exact rfl); (· (first | (apply Finds.box; (· (repeat constructor)); (· (repeat constructor)); done) | (refine Finds.mem2 (by assumption) ?_; first | rfl | assumption | (simp; done)) | (apply Finds.row; (· (repeat constructor)); (· assumption); (· rfl)))))); clear hgW))
    | ((with_reducible refine' Wl.out ?_; apply wl_stores hS); (· (first | exact rowT118)); (· exact rfl); (· exact rfl); (· exact rfl); (· (first | assumption | (simp [Value.oneCell']; done))); (· (repeat constructor)); (· (repeat constructor)); (· (repeat constructor)); clear hS; intro ws hS))
            all_goals
              go_meet
              case rel =>
                refine ⟨?_, ?_, ?_, rfl⟩
                · first | rfl | (simp_all; done)
                · first | rfl | (simp_all; done)
                rw [HF.out]
                congr 1
                rw [eq_comm, Bool.eq_iff_iff]
                simp only [decide_eq_true_eq, beq_iff_eq, beq_eq_false_iff_ne, ne_eq, Bool.not_eq_true, bne_iff_ne, reduceCtorEq, iff_true, iff_false] at *
                omega
          case rest =>
            obtain ⟨rfl, rfl, rfl, rfl⟩ := hcut
            by_cases hgood : goodP i pp at_ many ol
            · have hF : F = true := by rw [HF.out]; exact decide_eq_true hgood.2.2.2
              rw [if_pos hgood] at HR
              obtain ⟨rfl, rfl, h3, h4⟩ := hgood
              subst hF
              clear HF h4
              go_wp2_with (first
    | ((with_reducible refine' Wl.out ?_; apply wl_box (ty := 44) (y := (.tmp 0)) hS); (· (first | (go_simp; done) | (go_simp; with_reducible rfl))); (· exact rfl); clear hS; intro w2 b2 hS)
    | ((with_reducible refine' Wl.out ?_; apply wl_box (ty := 70) (y := (.tmp 1)) hS); (· (first | (go_simp; done) | (go_simp; with_reducible rfl))); (· exact rfl); clear hS; intro w3 b3 hS)
    | ((with_reducible refine' Wl.out ?_; apply wl_alloc (ty := 118) (dst := some 8) hS (.agg #[.int .i64 0, .int .i64 0, .slice none 0 0]) [.int .i64 0, .int .i64 0, .slice none 0 0]); (· kernel_rfl); (· rfl); clear hS; intro w8 b8 hS)
    | ((with_reducible refine' Wl.out ?_; apply wl_load hS); (· (first | exact Try.underlying3 | exact Try.underlying22)); (· exact rfl); (· exact rfl); (· (first | (apply Find.box; (· (repeat constructor)); rfl) | exact Find.mem (by assumption) | (apply Find.row; (· (repeat constructor)); assumption))))
    | ((with_reducible refine' Wl.out ?_; apply wg_load hS); (· (first | exact Try.underlying3 | exact Try.underlying22)); (· exact rfl); (· (first | rfl | (go_simp; done))); (· exact rfl); (· (first | (apply Find.box; (· (repeat constructor)); rfl) | exact Find.mem (by assumption) | (apply Find.row; (· (repeat constructor)); assumption))))
    | ((with_reducible refine' Wl.out ?_; apply wl_loads hS); (· (first | exact rowT44 | exact rowT70)); (· exact rfl); (· (first | (apply Finds.box; (· (repeat constructor)); (· (repeat constructor)); done) | (refine Finds.mem2 (by assumption) ?_; first | rfl | assumption | (simp; done)) | (apply Finds.row; (· (repeat constructor)); (· assumption); (· rfl)))))
    | ((with_reducible refine' Wl.out ?_; apply wg_loads hS); (· (first | exact rowT44 | exact rowT70)); (· (first | rfl | (go_simp; done))); (· exact rfl); (· (first | (apply Finds.box; (· (repeat constructor)); (· (repeat constructor)); done) | (refine Finds.mem2 (by assumption) ?_; first | rfl | assumption | (simp; done)) | (apply Finds.row; (· (repeat constructor)); (· assumption); (· rfl)))))
    | ((with_reducible refine' Wl.out ?_); (with_reducible refine' wg_case ?_ ?_) <;> (intro hgW; (try (have hg2 := hgW; simp [go_sem] at hg2)); (first | (exfalso; assumption) | ((with_reducible refine' Wl.out ?_; apply wl_unwanted); (· exact hgW)) | ((with_reducible refine' Wl.out ?_; apply wg_load hS); (· (first | exact Try.underlying3 | exact Try.underlying22)); (· exact rfl); (· exact hgW); (· exact rfl); (· (first | (apply Find.box; (· (repeat constructor)); rfl) | exact Find.mem (by assumption) | (apply Find.row; (· (repeat constructor)); assumption)))) | ((with_reducible refine' Wl.out ?_; apply wg_loads hS); (· (first | exact rowT44 | exact rowT70)); (· exact hgW); (· exact rfl); (· (first | (apply Finds.box; (· (repeat constructor)); (· (repeat constructor)); done) | (refine Finds.mem2 (by assumption) ?_; first | rfl | assumption | (simp; done)) | (apply Finds.row; (· (repeat constructor)); (· assumption); (· rfl)))))); clear hgW))
    | ((with_reducible refine' Wl.out ?_; apply wl_stores hS); (· (first | exact rowT118)); (· exact rfl); (· exact rfl); (· exact rfl); (· (first | assumption | (simp [Value.oneCell']; done))); (· (repeat constructor)); (· (repeat constructor)); (· (repeat constructor)); clear hS; intro ws hS)
                | ((with_reducible refine' Wl.out ?_; apply wl_append u8L el_u8 hS (by decide)); (· exact rfl); (· (repeat constructor)); (· exact rfl); (· exact R25.out); (· have hol := HOL.out; simp [Lay.int, kBytes]; omega); clear hS; intro w77 q77 c77 news77 hc77 hS; obtain ⟨rfl, hok⟩ := cellsInt hc77; have HOK := Lib.hid hok; clear hc77 hok))
              · go_step3
                have hlen : text.length + own.length = (text ++ own).length := by simp
                have hmap : text.map (Value.int .u8) ++ own.map (Value.int .u8) = (text ++ own).map (Value.int .u8) := by simp
                have hi1 : (i : Int) + 1 = ((i + 1 : Nat) : Int) := by omega
                have hlt : (i : Int) + 1 < many := by omega
                have hol := HOL.out
                have hle := A1.out
                rw [hlen, hmap] at hS
                rw [hlen, hi1]
                refine ⟨rfl, (HJ.out _ _ _).2 ⟨⟨i + 1, many, q77, c77, text ++ own, m25, ?_⟩, ?_⟩⟩
                · (repeat apply Exists.intro)
                  refine ⟨rfl, ⟨by omega, by simp; omega, by omega, by omega⟩, ?_, A1, ?_, hS.forget (x := .box b8 _) (by (repeat constructor))⟩
                  · show _ = _
                    rw [HR.out, if_pos hlt, show 4097 - (i + 1) = 4096 - i by omega]
                  · refine Lib.hid fun x hx => ?_
                    rcases List.mem_append.1 hx with h | h
                    · exact HK.out x h
                    · exact HOK.out x h
                · rw [HN.out]; simp [intOf]; omega
              · simp only [Exit.jump]
                have hlen : text.length + own.length = (text ++ own).length := by simp
                have hmap : text.map (Value.int .u8) ++ own.map (Value.int .u8) = (text ++ own).map (Value.int .u8) := by simp
                have hol := HOL.out
                rw [hlen, hmap] at hS
                rw [hlen]
                have hk : ∀ x ∈ text ++ own, InK .u8 x := fun x hx => by
                  rcases List.mem_append.1 hx with h | h
                  · exact HK.out x h
                  · exact HOK.out x h
                obtain ⟨m7, hS7, hle7, hrd⟩ := hS.settleRow' (L := u8L) (xs := text ++ own) 1 rfl rfl (cells_of_ints hk) (by simp [Lay.int, kBytes]; omega)
                rw [HR.out, if_neg (by omega)]
                go_ret3
                exact ⟨_, _, rfl, ⟨_, _, rfl, hrd⟩, hS7.done⟩
            · rw [if_neg hgood] at HR
              have hng : at_ ≠ i ∨ (at_ = i ∧ many ≠ pp) ∨ (at_ = i ∧ many = pp ∧ pp = 0) ∨ (at_ = i ∧ many = pp ∧ pp ≠ 0 ∧ F = false) := by
                by_cases h1 : at_ = i
                · by_cases h2 : many = pp
                  · by_cases h3 : pp = 0
                    · exact .inr (.inr (.inl ⟨h1, h2, h3⟩))
                    · exact .inr (.inr (.inr ⟨h1, h2, h3, by rw [HF.out]; exact decide_eq_false fun h4 => hgood ⟨h1, h2, h3, h4⟩⟩))
                  · exact .inr (.inl ⟨h1, h2⟩)
                · exact .inl h1
              clear hgood HF
              rcases hng with h1 | ⟨rfl, h2⟩ | ⟨rfl, rfl, rfl⟩ | ⟨rfl, rfl, h3, rfl⟩
              all_goals
                go_wp2_with (first
    | ((with_reducible refine' Wl.out ?_; apply wl_box (ty := 44) (y := (.tmp 0)) hS); (· (first | (go_simp; done) | (go_simp; with_reducible rfl))); (· exact rfl); clear hS; intro w2 b2 hS)
    | ((with_reducible refine' Wl.out ?_; apply wl_box (ty := 70) (y := (.tmp 1)) hS); (· (first | (go_simp; done) | (go_simp; with_reducible rfl))); (· exact rfl); clear hS; intro w3 b3 hS)
    | ((with_reducible refine' Wl.out ?_; apply wl_alloc (ty := 118) (dst := some 8) hS (.agg #[.int .i64 0, .int .i64 0, .slice none 0 0]) [.int .i64 0, .int .i64 0, .slice none 0 0]); (· kernel_rfl); (· rfl); clear hS; intro w8 b8 hS)
    | ((with_reducible refine' Wl.out ?_; apply wl_load hS); (· (first | exact Try.underlying3 | exact Try.underlying22)); (· exact rfl); (· exact rfl); (· (first | (apply Find.box; (· (repeat constructor)); rfl) | exact Find.mem (by assumption) | (apply Find.row; (· (repeat constructor)); assumption))))
    | ((with_reducible refine' Wl.out ?_; apply wg_load hS); (· (first | exact Try.underlying3 | exact Try.underlying22)); (· exact rfl); (· (first | rfl | (go_simp; done))); (· exact rfl); (· (first | (apply Find.box; (· (repeat constructor)); rfl) | exact Find.mem (by assumption) | (apply Find.row; (· (repeat constructor)); assumption))))
    | ((with_reducible refine' Wl.out ?_; apply wl_loads hS); (· (first | exact rowT44 | exact rowT70)); (· exact rfl); (· (first | (apply Finds.box; (· (repeat constructor)); (· (repeat constructor)); done) | (refine Finds.mem2 (by assumption) ?_; first | rfl | assumption | (simp; done)) | (apply Finds.row; (· (repeat constructor)); (· assumption); (· rfl)))))
    | ((with_reducible refine' Wl.out ?_; apply wg_loads hS); (· (first | exact rowT44 | exact rowT70)); (· (first | rfl | (go_simp; done))); (· exact rfl); (· (first | (apply Finds.box; (· (repeat constructor)); (· (repeat constructor)); done) | (refine Finds.mem2 (by assumption) ?_; first | rfl | assumption | (simp; done)) | (apply Finds.row; (· (repeat constructor)); (· assumption); (· rfl)))))
    | ((with_reducible refine' Wl.out ?_); (with_reducible refine' wg_case ?_ ?_) <;> (intro hgW; (try (have hg2 := hgW; simp [go_sem] at hg2)); (first | (exfalso; assumption) | ((with_reducible refine' Wl.out ?_; apply wl_unwanted); (· exact hgW)) | ((with_reducible refine' Wl.out ?_; apply wg_load hS); (· (first | exact Try.underlying3 | exact Try.underlying22)); (· exact rfl); (· exact hgW); (· exact rfl); (· (first | (apply Find.box; (· (repeat constructor)); rfl) | exact Find.mem (by assumption) | (apply Find.row; (· (repeat constructor)); assumption)))) | ((with_reducible refine' Wl.out ?_; apply wg_loads hS); (· (first | exact rowT44 | exact rowT70)); (· exact hgW); (· exact rfl); (· (first | (apply Finds.box; (· (repeat constructor)); (· (repeat constructor)); done) | (refine Finds.mem2 (by assumption) ?_; first | rfl | assumption | (simp; done)) | (apply Finds.row; (· (repeat constructor)); (· assumption); (· rfl)))))); clear hgW))
    | ((with_reducible refine' Wl.out ?_; apply wl_stores hS); (· (first | exact rowT118)); (· exact rfl); (· exact rfl); (· exact rfl); (· (first | assumption | (simp [Value.oneCell']; done))); (· (repeat constructor)); (· (repeat constructor)); (· (repeat constructor)); clear hS; intro ws hS))
              all_goals
                simp only [Exit.jump]
                rw [HR.out]
                go_ret3
                exact ⟨_, _, rfl, ⟨_, _, _, _, rfl⟩, hS.done⟩
    · have hR : R = none := HGO'.trans (go_far (g := ⟨b, s, g, p, n⟩) hs)
      have HR := Lib.hid hR
      clear hR HGO HGO'
      go_wp2_with (first
    | ((with_reducible refine' Wl.out ?_; apply wl_box (ty := 44) (y := (.tmp 0)) hS); (· (first | (go_simp; done) | (go_simp; with_reducible rfl))); (· exact rfl); clear hS; intro w2 b2 hS)
    | ((with_reducible refine' Wl.out ?_; apply wl_box (ty := 70) (y := (.tmp 1)) hS); (· (first | (go_simp; done) | (go_simp; with_reducible rfl))); (· exact rfl); clear hS; intro w3 b3 hS)
    | ((with_reducible refine' Wl.out ?_; apply wl_alloc (ty := 118) (dst := some 8) hS (.agg #[.int .i64 0, .int .i64 0, .slice none 0 0]) [.int .i64 0, .int .i64 0, .slice none 0 0]); (· kernel_rfl); (· rfl); clear hS; intro w8 b8 hS)
    | ((with_reducible refine' Wl.out ?_; apply wl_load hS); (· (first | exact Try.underlying3 | exact Try.underlying22)); (· exact rfl); (· exact rfl); (· (first | (apply Find.box; (· (repeat constructor)); rfl) | exact Find.mem (by assumption) | (apply Find.row; (· (repeat constructor)); assumption))))
    | ((with_reducible refine' Wl.out ?_; apply wg_load hS); (· (first | exact Try.underlying3 | exact Try.underlying22)); (· exact rfl); (· (first | rfl | (go_simp; done))); (· exact rfl); (· (first | (apply Find.box; (· (repeat constructor)); rfl) | exact Find.mem (by assumption) | (apply Find.row; (· (repeat constructor)); assumption))))
    | ((with_reducible refine' Wl.out ?_; apply wl_loads hS); (· (first | exact rowT44 | exact rowT70)); (· exact rfl); (· (first | (apply Finds.box; (· (repeat constructor)); (· (repeat constructor)); done) | (refine Finds.mem2 (by assumption) ?_; first | rfl | assumption | (simp; done)) | (apply Finds.row; (· (repeat constructor)); (· assumption); (· rfl)))))
    | ((with_reducible refine' Wl.out ?_; apply wg_loads hS); (· (first | exact rowT44 | exact rowT70)); (· (first | rfl | (go_simp; done))); (· exact rfl); (· (first | (apply Finds.box; (· (repeat constructor)); (· (repeat constructor)); done) | (refine Finds.mem2 (by assumption) ?_; first | rfl | assumption | (simp; done)) | (apply Finds.row; (· (repeat constructor)); (· assumption); (· rfl)))))
    | ((with_reducible refine' Wl.out ?_); (with_reducible refine' wg_case ?_ ?_) <;> (intro hgW; (try (have hg2 := hgW; simp [go_sem] at hg2)); (first | (exfalso; assumption) | ((with_reducible refine' Wl.out ?_; apply wl_unwanted); (· exact hgW)) | ((with_reducible refine' Wl.out ?_; apply wg_load hS); (· (first | exact Try.underlying3 | exact Try.underlying22)); (· exact rfl); (· exact hgW); (· exact rfl); (· (first | (apply Find.box; (· (repeat constructor)); rfl) | exact Find.mem (by assumption) | (apply Find.row; (· (repeat constructor)); assumption)))) | ((with_reducible refine' Wl.out ?_; apply wg_loads hS); (· (first | exact rowT44 | exact rowT70)); (· exact hgW); (· exact rfl); (· (first | (apply Finds.box; (· (repeat constructor)); (· (repeat constructor)); done) | (refine Finds.mem2 (by assumption) ?_; first | rfl | assumption | (simp; done)) | (apply Finds.row; (· (repeat constructor)); (· assumption); (· rfl)))))); clear hgW))
    | ((with_reducible refine' Wl.out ?_; apply wl_stores hS); (· (first | exact rowT118)); (· exact rfl); (· exact rfl); (· exact rfl); (· (first | assumption | (simp [Value.oneCell']; done))); (· (repeat constructor)); (· (repeat constructor)); (· (repeat constructor)); clear hS; intro ws hS))
      all_goals
        simp only [Exit.jump]
        rw [HR.out]
        go_ret3
        exact ⟨_, _, rfl, ⟨_, _, _, _, rfl⟩, hS.done⟩
end Go.Proofs.Ytnmgiiaejpaeeaa
