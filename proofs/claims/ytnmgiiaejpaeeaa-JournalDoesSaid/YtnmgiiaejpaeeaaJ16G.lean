/- Reading journals: contract of the reference's group. -/
import Derived.Test.YtnmgiiaejpaeeaaG4
namespace Go.Proofs.Ytnmgiiaejpaeeaa
set_option linter.unusedVariables false
set_option linter.unusedSimpArgs false
open Go.RowKit Go.Shelf
/-- Where the reference stands ahead of the i-th part. -/
def rgo (d : Dk) (g : Lg) (i : Nat) (parts : Int) (text : List Int) : Option (List Int × Int) :=
  if i = 0 then groupR d g else if (i : Int) < parts then groupGo d g (4097 - i) i parts text else if parts = 0 then none else some (text, parts)
theorem rgo_go {d : Dk} {g : Lg} {i : Nat} {parts : Int} {text : List Int} (h : i = 0 ∧ text = [] ∨ (i : Int) < parts) (h0 : i = 0 → text = []) : ∃ ps, (i ≠ 0 → ps = parts) ∧ rgo d g i parts text = groupGo d g (4097 - i) i ps text := by
  by_cases hi : i = 0
  · subst hi
    obtain rfl := h0 rfl
    exact ⟨0, fun h => absurd rfl h, rfl⟩
  · refine ⟨parts, fun _ => rfl, ?_⟩
    unfold rgo
    rw [if_neg hi, if_pos (h.resolve_left (fun h => hi h.1))]
theorem rgo_next {d : Dk} {g : Lg} {i : Nat} {parts : Int} {text : List Int} (h : (i : Int) + 1 ≤ parts) : rgo d g (i + 1) parts text = if (i : Int) + 1 < parts then groupGo d g (4097 - (i + 1)) (i + 1) parts text else some (text, parts) := by
  unfold rgo
  rw [if_neg (by omega)]
  by_cases h2 : (i : Int) + 1 < parts
  · rw [if_pos h2, if_pos (by omega)]
  · rw [if_neg h2, if_neg (by omega), if_neg (by omega)]
theorem rgo_step {d : Dk} {g : Lg} {i : Nat} {parts at_ many : Int} {text own : List Int} (hlt : (i : Int) < parts) (h0 : i = 0 → text = []) (hi : i ≤ 4096) (hs : g.pos + i < g.size) (hp : pieceR d g (g.pos + i) = some (at_, many, own)) (hm : 0 ≤ many) :
    (goodP i (partsOf i parts many) at_ many own.length → rgo d g i parts text = rgo d g (i + 1) (partsOf i parts many) (text ++ own)) ∧ (¬ goodP i (partsOf i parts many) at_ many own.length → rgo d g i parts text = none) := by
  obtain ⟨ps, h1, h2⟩ := rgo_go (d := d) (g := g) (.inr hlt) h0
  have hps : partsOf i ps many = partsOf i parts many := by
    unfold partsOf
    by_cases hi : i = 0
    · rw [if_pos hi, if_pos hi]
    · rw [if_neg hi, if_neg hi]; exact h1 hi
  have hf : 4097 - i = (4096 - i) + 1 := by omega
  rw [h2, hf, go_some hs hp, hps]
  constructor
  · intro hg
    rw [if_pos hg]
    obtain ⟨_, _, k3, _⟩ := hg
    have hle : (i : Int) + 1 ≤ partsOf i parts many := by
      unfold partsOf at *
      by_cases hi : i = 0
      · rw [if_pos hi] at *; omega
      · rw [if_neg hi] at *; omega
    rw [rgo_next hle, show 4097 - (i + 1) = 4096 - i by omega]
  · intro hg
    rw [if_neg hg]
theorem rgo_none {d : Dk} {g : Lg} {i : Nat} {parts : Int} {text : List Int} (hlt : (i : Int) < parts) (h0 : i = 0 → text = []) (hi : i ≤ 4096) (h : g.pos + i < g.size → pieceR d g (g.pos + i) = none) : rgo d g i parts text = none := by
  obtain ⟨ps, h1, h2⟩ := rgo_go (d := d) (g := g) (.inr hlt) h0
  have hf : 4097 - i = (4096 - i) + 1 := by omega
  rw [h2, hf]
  by_cases hs : g.pos + i < g.size
  · exact go_none hs (h hs)
  · exact go_far hs
theorem open_nil : openE [] = 1 := rfl
theorem readB_err {d : Dk} {k : Int} (h : readE d k ≠ 0) : readB d k = [] := if_pos h
set_option maxRecDepth 100000 in
set_option maxHeartbeats 8000000 in
theorem rjgroup_c (m : Mem) (w : World) (hm : m.In w) (cs : List Value) (d : Dk) (hd : dkL.rd m cs d) (b s g p n : Int) (hg : lgOK ⟨b, s, g, p, n⟩) :
    Calls Try.prog 92 #[.agg cs.toArray, .agg ([.int .i64 b, .int .i64 s, .int .i64 g, .int .i64 p, .int .i64 n] : List Value).toArray] w (RetGroup w m (groupR d ⟨b, s, g, p, n⟩)) := by
  obtain ⟨p0, c0, q0, a0, rfl, A0⟩ := dkL_cells hd
  have hS := St.start hm
  have HG := Lib.hid hg
  obtain ⟨g1, g2, g3, g4, g5, g6, g7, g8, g9, g10⟩ := hg
  simp only at g1 g2 g3 g4 g5 g6 g7 g8 g9 g10
  clear hd
  obtain ⟨R, hR⟩ : ∃ R, R = rgo d ⟨b, s, g, p, n⟩ 0 1 [] := ⟨_, rfl⟩
  rw [show groupR d ⟨b, s, g, p, n⟩ = R from hR.symm]
  have HR := Lib.hid hR
  clear hR
  go_enter Try.func92, Try.ntmps92
  go_wp2_with (first
    | ((with_reducible refine' Wl.out ?_; apply wl_box (ty := 44) (y := (.tmp 0)) hS); (· (first | (go_simp; done) | (go_simp; with_reducible rfl))); (· exact rfl); clear hS; intro w2 b2 hS)
    | ((with_reducible refine' Wl.out ?_; apply wl_box (ty := 70) (y := (.tmp 1)) hS); (· (first | (go_simp; done) | (go_simp; with_reducible rfl))); (· exact rfl); clear hS; intro w3 b3 hS)
    | ((with_reducible refine' Wl.out ?_; apply wl_load hS); (· (first | exact Try.underlying2 | exact Try.underlying3 | exact Try.underlying5)); (· exact rfl); (· exact rfl); (· (first | (apply Find.box; (· (repeat constructor)); rfl) | exact Find.mem (by assumption) | (apply Find.row; (· (repeat constructor)); assumption))))
    | ((with_reducible refine' Wl.out ?_; apply wg_load hS); (· (first | exact Try.underlying2 | exact Try.underlying3 | exact Try.underlying5)); (· exact rfl); (· (first | rfl | (go_simp; done))); (· exact rfl); (· (first | (apply Find.box; (· (repeat constructor)); rfl) | exact Find.mem (by assumption) | (apply Find.row; (· (repeat constructor)); assumption))))
    | ((with_reducible refine' Wl.out ?_; apply wl_loads hS); (· (first | exact rowT44)); (· exact rfl); (· (first | (apply Finds.box; (· (repeat constructor)); (· (repeat constructor)); done) | (refine Finds.mem2 (by assumption) ?_; first | rfl | assumption | (simp; done)) | (apply Finds.row; (· (repeat constructor)); (· assumption); (· rfl)))))
    | ((with_reducible refine' Wl.out ?_; apply wg_loads hS); (· (first | exact rowT44)); (· (first | rfl | (go_simp; done))); (· exact rfl); (· (first | (apply Finds.box; (· (repeat constructor)); (· (repeat constructor)); done) | (refine Finds.mem2 (by assumption) ?_; first | rfl | assumption | (simp; done)) | (apply Finds.row; (· (repeat constructor)); (· assumption); (· rfl)))))
    | ((with_reducible refine' Wl.out ?_); (with_reducible refine' wg_case ?_ ?_) <;> (intro hgW; (try (have hg2 := hgW; simp [go_sem] at hg2)); (first | (exfalso; assumption) | ((with_reducible refine' Wl.out ?_; apply wl_unwanted); (· exact hgW)) | ((with_reducible refine' Wl.out ?_; apply wg_load hS); (· (first | exact Try.underlying2 | exact Try.underlying3 | exact Try.underlying5)); (· exact rfl); (· exact hgW); (· exact rfl); (· (first | (apply Find.box; (· (repeat constructor)); rfl) | exact Find.mem (by assumption) | (apply Find.row; (· (repeat constructor)); assumption)))) | ((with_reducible refine' Wl.out ?_; apply wg_loads hS); (· (first | exact rowT44)); (· exact hgW); (· exact rfl); (· (first | (apply Finds.box; (· (repeat constructor)); (· (repeat constructor)); done) | (refine Finds.mem2 (by assumption) ?_; first | rfl | assumption | (simp; done)) | (apply Finds.row; (· (repeat constructor)); (· assumption); (· rfl)))))); clear hgW)))
  replace hS := hS.nilRow 5 1
  go_loopw [7, 8, 9] (fun vt vp vi wr => ∃ (i : Nat) (parts : Int) (q : Option Addr) (c : Nat) (text : List Int) (m' : Mem), vt = .slice q text.length c ∧ vp = .int .i64 parts ∧ vi = .int .i64 i ∧
      (i ≤ 4096 ∧ text.length ≤ 11 * i ∧ 0 ≤ parts ∧ parts ≤ 65535 ∧ (i = 0 → text = [] ∧ parts = 1) ∧ ((i : Int) ≤ parts ∨ parts = 0)) ∧ Hid (rgo d ⟨b, s, g, p, n⟩ i parts text = R) ∧ Hid (dkL.rd m' [.slice p0 d.dry.length c0, .slice q0 d.wet.length a0, .int .i64 d.fuse, .bool d.dead] d) ∧ Hid (∀ x ∈ text, InK .u8 x) ∧
      St [] w m wr [.row 5 1 (.slice q text.length c) text.length (text.map (.int .u8)), .box b3 [.int .i64 b, .int .i64 s, .int .i64 g, .int .i64 p, .int .i64 n], .box b2 [.slice p0 d.dry.length c0, .slice q0 d.wet.length a0, .int .i64 d.fuse, .bool d.dead]] m') (fun _ _ vi _ => 4097 - (intOf vi).toNat)
  case atStart => exact ⟨0, 1, none, 0, [], m, rfl, rfl, rfl, ⟨by omega, by simp, by omega, by omega, fun _ => ⟨rfl, rfl⟩, by omega⟩, HR.out.symm, A0, fun x hx => by simp at hx, hS⟩
  case round =>
    clear hS A0
    obtain ⟨i, parts, q, c, text, m', rfl, rfl, rfl, ⟨i1, i2, i3, i4, i5, i6⟩, HGO, A1, HK, hS⟩ := hrel
    have I5 := Lib.hid i5
    clear i5
    by_cases hlt : (i : Int) < parts
    · have I7 := Lib.hid hlt
      have ew0 : IntKind.i64.wrap (p + i) = p + i := IntWalk.i64_in _ (by omega)
      have ew1 : IntKind.i64.wrap (b + p) = b + p := IntWalk.i64_in _ (by omega)
      have ew2 : IntKind.i64.wrap (b + p + (i : Int)) = b + p + i := IntWalk.i64_in _ (by omega)
      by_cases hs : p + i < s
      · go_upto_region 10 with (first
    | ((with_reducible refine' Wl.out ?_; apply wl_box (ty := 44) (y := (.tmp 0)) hS); (· (first | (go_simp; done) | (go_simp; with_reducible rfl))); (· exact rfl); clear hS; intro w2 b2 hS)
    | ((with_reducible refine' Wl.out ?_; apply wl_box (ty := 70) (y := (.tmp 1)) hS); (· (first | (go_simp; done) | (go_simp; with_reducible rfl))); (· exact rfl); clear hS; intro w3 b3 hS)
    | ((with_reducible refine' Wl.out ?_; apply wl_load hS); (· (first | exact Try.underlying2 | exact Try.underlying3 | exact Try.underlying5)); (· exact rfl); (· exact rfl); (· (first | (apply Find.box; (· (repeat constructor)); rfl) | exact Find.mem (by assumption) | (apply Find.row; (· (repeat constructor)); assumption))))
    | ((with_reducible refine' Wl.out ?_; apply wg_load hS); (· (first | exact Try.underlying2 | exact Try.underlying3 | exact Try.underlying5)); (· exact rfl); (· (first | rfl | (go_simp; done))); (· exact rfl); (· (first | (apply Find.box; (· (repeat constructor)); rfl) | exact Find.mem (by assumption) | (apply Find.row; (· (repeat constructor)); assumption))))
    | ((with_reducible refine' Wl.out ?_; apply wl_loads hS); (· (first | exact rowT44)); (· exact rfl); (· (first | (apply Finds.box; (· (repeat constructor)); (· (repeat constructor)); done) | (refine Finds.mem2 (by assumption) ?_; first | rfl | assumption | (simp; done)) | (apply Finds.row; (· (repeat constructor)); (· assumption); (· rfl)))))
    | ((with_reducible refine' Wl.out ?_; apply wg_loads hS); (· (first | exact rowT44)); (· (first | rfl | (go_simp; done))); (· exact rfl); (· (first | (apply Finds.box; (· (repeat constructor)); (· (repeat constructor)); done) | (refine Finds.mem2 (by assumption) ?_; first | rfl | assumption | (simp; done)) | (apply Finds.row; (· (repeat constructor)); (· assumption); (· rfl)))))
    | ((with_reducible refine' Wl.out ?_); (with_reducible refine' wg_case ?_ ?_) <;> (intro hgW; (try (have hg2 := hgW; simp [go_sem] at hg2)); (first | (exfalso; assumption) | ((with_reducible refine' Wl.out ?_; apply wl_unwanted); (· exact hgW)) | ((with_reducible refine' Wl.out ?_; apply wg_load hS); (· (first | exact Try.underlying2 | exact Try.underlying3 | exact Try.underlying5)); (· exact rfl); (· exact hgW); (· exact rfl); (· (first | (apply Find.box; (· (repeat constructor)); rfl) | exact Find.mem (by assumption) | (apply Find.row; (· (repeat constructor)); assumption)))) | ((with_reducible refine' Wl.out ?_; apply wg_loads hS); (· (first | exact rowT44)); (· exact hgW); (· exact rfl); (· (first | (apply Finds.box; (· (repeat constructor)); (· (repeat constructor)); done) | (refine Finds.mem2 (by assumption) ?_; first | rfl | assumption | (simp; done)) | (apply Finds.row; (· (repeat constructor)); (· assumption); (· rfl)))))); clear hgW))
    | (go_at_call 43; (fail_if_success (clear Mk39)); refine (letBE (rread_c _ _ hS.inw _ _ (by first | exact A0.out | exact A1.out | exact R39.out | exact R44.out | exact dkL_dry A0.out | exact dkL_dry A1.out | exact Lay.nil_rd _ _) _)).mono ?_; rintro e' w39 ⟨_, m39, rfl, ⟨p39, c39, Y39, E39, HY39, HE39, rfl, R39, C39⟩, hk⟩; replace hS := hS.call hk; (try replace A0 := Lib.hid (Lay.mono _ hk.le A0.out)); (try replace A1 := Lib.hid (Lay.mono _ hk.le A1.out)); (try replace R39 := Lib.hid (Lay.mono _ hk.le R39.out)); (try replace R44 := Lib.hid (Lay.mono _ hk.le R44.out)); clear hk; have Mk39 := True.intro)
    | (go_at_call 28; (fail_if_success (clear Mk44)); refine (ropen_c _ _ hS.inw _ _ (by first | exact A0.out | exact A1.out | exact R39.out | exact R44.out | exact dkL_dry A0.out | exact dkL_dry A1.out | exact Lay.nil_rd _ _)).mono ?_; rintro e' w44 ⟨_, m44, rfl, ⟨p44, c44, Y44, N44, E44, HY44, HN44, HE44, rfl, R44, C44⟩, hk⟩; replace hS := hS.call hk; (try replace A0 := Lib.hid (Lay.mono _ hk.le A0.out)); (try replace A1 := Lib.hid (Lay.mono _ hk.le A1.out)); (try replace R39 := Lib.hid (Lay.mono _ hk.le R39.out)); (try replace R44 := Lib.hid (Lay.mono _ hk.le R44.out)); clear hk; have Mk44 := True.intro))
        have NO : pieceR d ⟨b, s, g, p, n⟩ (p + i) = none → R = none := fun h => HGO.out.symm.trans (rgo_none (g := ⟨b, s, g, p, n⟩) hlt (fun h => (I5.out h).1) i1 (fun _ => h))
        have PC : ¬ (readE d (b + (p + i)) = 0 ∧ openE (readB d (b + (p + i))) = 0 ∧ openN (readB d (b + (p + i))) = stampOf ⟨b, s, g, p, n⟩ ∧ (openP (readB d (b + (p + i)))).getD 4 0 ≤ 11) → pieceR d ⟨b, s, g, p, n⟩ (p + i) = none := fun h => piece_no (g := ⟨b, s, g, p, n⟩) h
        have HYR : Hid (Y39 = readB d (b + (p + i))) := by rw [show b + (p + (i : Int)) = b + p + i by omega]; exact HY39
        have HE44' : openE (readB d (b + (p + i))) = E44 := by rw [← HYR.out]; exact HE44.out.symm
        by_cases hE : E44 = 0
        · subst hE
          by_cases hN : N44 = g * 1048576 + 524288 + n
          · have hx : (N44 != g * 1048576 + 524288 + n) = false := by simp [hN]
            have hrE : readE d (b + (p + i)) = 0 := Decidable.byContradiction fun h => by
              rw [readB_err h, open_nil] at HE44'; cases HE44'
            have HRE := Lib.hid hrE
            have HE2 := Lib.hid HE44'
            have HNO := Lib.hid NO
            have HPC := Lib.hid PC
            clear hrE HE44' NO PC
            obtain ⟨y0, y1, y2, y3, y4, ys, hY, hl⟩ := open16 HE44.out.symm
            have HY := Lib.hid (HY44.out.trans hY)
            have HL := Lib.hid hl
            have hlen : Y44.length = 16 := by rw [HY.out]; simp [hl]
            obtain ⟨_, _, e, _, _, _, o4⟩ := Lay.list_open R44.out
            cases e
            obtain ⟨bb, oo, rfl, _⟩ := o4 (by omega)
            rw [hlen] at R44 C44 ⊢
            have hB := bytes_isB R44.out
            rw [HY.out] at hB
            have z0 := hB y0 (by simp)
            have z1 := hB y1 (by simp)
            have z2 := hB y2 (by simp)
            have z3 := hB y3 (by simp)
            have z4 := hB y4 (by simp)
            have c16 := C44.out.1
            have c17 := C44.out.2
            clear o4 hY hl hlen hB
            have f0 := bytes_cell R44.out 0 y0 (by rw [HY.out]; rfl)
            have f1 := bytes_cell R44.out 1 y1 (by rw [HY.out]; rfl)
            have f2 := bytes_cell R44.out 2 y2 (by rw [HY.out]; rfl)
            have f3 := bytes_cell R44.out 3 y3 (by rw [HY.out]; rfl)
            have f4 := bytes_cell R44.out 4 y4 (by rw [HY.out]; rfl)
            rw [Nat.add_zero] at f0
            go_upto_region 12 with (first
    | ((with_reducible refine' Wl.out ?_; apply wl_box (ty := 44) (y := (.tmp 0)) hS); (· (first | (go_simp; done) | (go_simp; with_reducible rfl))); (· exact rfl); clear hS; intro w2 b2 hS)
    | ((with_reducible refine' Wl.out ?_; apply wl_box (ty := 70) (y := (.tmp 1)) hS); (· (first | (go_simp; done) | (go_simp; with_reducible rfl))); (· exact rfl); clear hS; intro w3 b3 hS)
    | ((with_reducible refine' Wl.out ?_; apply wl_load hS); (· (first | exact Try.underlying2 | exact Try.underlying3 | exact Try.underlying5)); (· exact rfl); (· exact rfl); (· (first | (apply Find.box; (· (repeat constructor)); rfl) | exact Find.mem (by assumption) | (apply Find.row; (· (repeat constructor)); assumption))))
    | ((with_reducible refine' Wl.out ?_; apply wg_load hS); (· (first | exact Try.underlying2 | exact Try.underlying3 | exact Try.underlying5)); (· exact rfl); (· (first | rfl | (go_simp; done))); (· exact rfl); (· (first | (apply Find.box; (· (repeat constructor)); rfl) | exact Find.mem (by assumption) | (apply Find.row; (· (repeat constructor)); assumption))))
    | ((with_reducible refine' Wl.out ?_; apply wl_loads hS); (· (first | exact rowT44)); (· exact rfl); (· (first | (apply Finds.box; (· (repeat constructor)); (· (repeat constructor)); done) | (refine Finds.mem2 (by assumption) ?_; first | rfl | assumption | (simp; done)) | (apply Finds.row; (· (repeat constructor)); (· assumption); (· rfl)))))
    | ((with_reducible refine' Wl.out ?_; apply wg_loads hS); (· (first | exact rowT44)); (· (first | rfl | (go_simp; done))); (· exact rfl); (· (first | (apply Finds.box; (· (repeat constructor)); (· (repeat constructor)); done) | (refine Finds.mem2 (by assumption) ?_; first | rfl | assumption | (simp; done)) | (apply Finds.row; (· (repeat constructor)); (· assumption); (· rfl)))))
    | ((with_reducible refine' Wl.out ?_); (with_reducible refine' wg_case ?_ ?_) <;> (intro hgW; (try (have hg2 := hgW; simp [go_sem] at hg2)); (first | (exfalso; assumption) | ((with_reducible refine' Wl.out ?_; apply wl_unwanted); (· exact hgW)) | ((with_reducible refine' Wl.out ?_; apply wg_load hS); (· (first | exact Try.underlying2 | exact Try.underlying3 | exact Try.underlying5)); (· exact rfl); (· exact hgW); (· exact rfl); (· (first | (apply Find.box; (· (repeat constructor)); rfl) | exact Find.mem (by assumption) | (apply Find.row; (· (repeat constructor)); assumption)))) | ((with_reducible refine' Wl.out ?_; apply wg_loads hS); (· (first | exact rowT44)); (· exact hgW); (· exact rfl); (· (first | (apply Finds.box; (· (repeat constructor)); (· (repeat constructor)); done) | (refine Finds.mem2 (by assumption) ?_; first | rfl | assumption | (simp; done)) | (apply Finds.row; (· (repeat constructor)); (· assumption); (· rfl)))))); clear hgW)))
            obtain ⟨many, hmany⟩ : ∃ many, many = y2 + 256 * y3 := ⟨_, rfl⟩
            obtain ⟨at_, hat⟩ : ∃ at_, at_ = y0 + 256 * y1 := ⟨_, rfl⟩
            have em1 : IntKind.i64.wrap y2 = y2 := IntWalk.i64_in _ (by omega)
            have em2 : IntKind.i64.wrap y3 = y3 := IntWalk.i64_in _ (by omega)
            have em3 : IntKind.i64.wrap (256 * y3) = 256 * y3 := IntWalk.i64_in _ (by omega)
            have em4 : IntKind.i64.wrap (y2 + 256 * y3) = many := by rw [hmany]; exact IntWalk.i64_in _ (by omega)
            have em5 : IntKind.i64.wrap y0 = y0 := IntWalk.i64_in _ (by omega)
            have em6 : IntKind.i64.wrap y1 = y1 := IntWalk.i64_in _ (by omega)
            have em7 : IntKind.i64.wrap (256 * y1) = 256 * y1 := IntWalk.i64_in _ (by omega)
            have em8 : IntKind.i64.wrap (y0 + 256 * y1) = at_ := by rw [hat]; exact IntWalk.i64_in _ (by omega)
            have mb : 0 ≤ many ∧ many ≤ 65535 := by omega
            have HM := Lib.hid hmany
            have HA := Lib.hid hat
            clear hmany hat
            replace hS := hS.drew
            refine startL (S := Sx _ []) (by kernel_rfl) hS.sx0 (fun _ _ _ _ => trivial) (fun hHeld => ?_)
            focus (refine takeN 0 (v := ?_) rfl (by kernel_rfl) ?_ ?_; rotate_left; focus (intro w hSw; clear hSw; go_simp; try with_reducible rfl))
            try simp only [Act.put, nz1, nz2, nz3]
            focus (refine takeN 1 (v := ?_) rfl (by kernel_rfl) ?_ ?_; rotate_left; focus (intro w hSw; clear hSw; go_simp; try with_reducible rfl))
            try simp only [Act.put, nz1, nz2, nz3]
            refine takeN 2 rfl (by kernel_rfl) (yield_load rfl Try.underlying5 rfl rfl (by (first | (apply FindX.box; (· (repeat constructor)); rfl) | exact FindX.mem (by assumption)))) ?_
            try simp only [Act.put, nz1, nz2, nz3]
            focus (refine takeN 3 (v := ?_) rfl (by kernel_rfl) ?_ ?_; rotate_left; focus (intro w hSw; clear hSw; go_simp; try with_reducible rfl))
            try simp only [Act.put, nz1, nz2, nz3]
            focus (refine takeN 4 (v := ?_) rfl (by kernel_rfl) ?_ ?_; rotate_left; focus (intro w hSw; clear hSw; go_simp; try with_reducible rfl))
            try simp only [Act.put, nz1, nz2, nz3]
            focus (refine takeN 5 (v := ?_) rfl (by kernel_rfl) ?_ ?_; rotate_left; focus (intro w hSw; clear hSw; go_simp; try with_reducible rfl))
            try simp only [Act.put, nz1, nz2, nz3]
            refine takeN 6 rfl (by kernel_rfl) (yield_load rfl Try.underlying5 rfl rfl (by (first | (apply FindX.box; (· (repeat constructor)); rfl) | exact FindX.mem (by assumption)))) ?_
            try simp only [Act.put, nz1, nz2, nz3]
            focus (refine takeN 7 (v := ?_) rfl (by kernel_rfl) ?_ ?_; rotate_left; focus (intro w hSw; clear hSw; go_simp; try with_reducible rfl))
            try simp only [Act.put, nz1, nz2, nz3]
            focus (refine takeN 8 (v := ?_) rfl (by kernel_rfl) ?_ ?_; rotate_left; focus (intro w hSw; clear hSw; go_simp; try with_reducible rfl))
            try simp only [Act.put, nz1, nz2, nz3]
            focus (refine takeN 9 (v := ?_) rfl (by kernel_rfl) ?_ ?_; rotate_left; focus (intro w hSw; clear hSw; go_simp; try with_reducible rfl))
            try simp only [Act.put, nz1, nz2, nz3]
            focus (refine takeN 10 (v := ?_) rfl (by kernel_rfl) ?_ ?_; rotate_left; focus (intro w hSw; clear hSw; go_simp; try with_reducible rfl))
            try simp only [Act.put, nz1, nz2, nz3]
            refine wpAnyH_done (by kernel_rfl) ?_ _
            refine NoPanic.normal ?_
            go_upto_if 72 with (first
    | ((with_reducible refine' Wl.out ?_; apply wl_box (ty := 44) (y := (.tmp 0)) hS); (· (first | (go_simp; done) | (go_simp; with_reducible rfl))); (· exact rfl); clear hS; intro w2 b2 hS)
    | ((with_reducible refine' Wl.out ?_; apply wl_box (ty := 70) (y := (.tmp 1)) hS); (· (first | (go_simp; done) | (go_simp; with_reducible rfl))); (· exact rfl); clear hS; intro w3 b3 hS)
    | ((with_reducible refine' Wl.out ?_; apply wl_load hS); (· (first | exact Try.underlying2 | exact Try.underlying3 | exact Try.underlying5)); (· exact rfl); (· exact rfl); (· (first | (apply Find.box; (· (repeat constructor)); rfl) | exact Find.mem (by assumption) | (apply Find.row; (· (repeat constructor)); assumption))))
    | ((with_reducible refine' Wl.out ?_; apply wg_load hS); (· (first | exact Try.underlying2 | exact Try.underlying3 | exact Try.underlying5)); (· exact rfl); (· (first | rfl | (go_simp; done))); (· exact rfl); (· (first | (apply Find.box; (· (repeat constructor)); rfl) | exact Find.mem (by assumption) | (apply Find.row; (· (repeat constructor)); assumption))))
    | ((with_reducible refine' Wl.out ?_; apply wl_loads hS); (· (first | exact rowT44)); (· exact rfl); (· (first | (apply Finds.box; (· (repeat constructor)); (· (repeat constructor)); done) | (refine Finds.mem2 (by assumption) ?_; first | rfl | assumption | (simp; done)) | (apply Finds.row; (· (repeat constructor)); (· assumption); (· rfl)))))
    | ((with_reducible refine' Wl.out ?_; apply wg_loads hS); (· (first | exact rowT44)); (· (first | rfl | (go_simp; done))); (· exact rfl); (· (first | (apply Finds.box; (· (repeat constructor)); (· (repeat constructor)); done) | (refine Finds.mem2 (by assumption) ?_; first | rfl | assumption | (simp; done)) | (apply Finds.row; (· (repeat constructor)); (· assumption); (· rfl)))))
    | ((with_reducible refine' Wl.out ?_); (with_reducible refine' wg_case ?_ ?_) <;> (intro hgW; (try (have hg2 := hgW; simp [go_sem] at hg2)); (first | (exfalso; assumption) | ((with_reducible refine' Wl.out ?_; apply wl_unwanted); (· exact hgW)) | ((with_reducible refine' Wl.out ?_; apply wg_load hS); (· (first | exact Try.underlying2 | exact Try.underlying3 | exact Try.underlying5)); (· exact rfl); (· exact hgW); (· exact rfl); (· (first | (apply Find.box; (· (repeat constructor)); rfl) | exact Find.mem (by assumption) | (apply Find.row; (· (repeat constructor)); assumption)))) | ((with_reducible refine' Wl.out ?_; apply wg_loads hS); (· (first | exact rowT44)); (· exact hgW); (· exact rfl); (· (first | (apply Finds.box; (· (repeat constructor)); (· (repeat constructor)); done) | (refine Finds.mem2 (by assumption) ?_; first | rfl | assumption | (simp; done)) | (apply Finds.row; (· (repeat constructor)); (· assumption); (· rfl)))))); clear hgW)))
            obtain ⟨pp, hpp⟩ : ∃ pp, pp = partsOf i parts many := ⟨_, rfl⟩
            have HPP := Lib.hid hpp
            clear hpp
            go_cut [8, 125, 126, 127, 128] from 16 (fun v8 va vb vc vd wx => v8 = .int .i64 pp ∧ va = undef ∧ vb = undef ∧ vc = undef ∧ vd = undef ∧ wx = w44.drew)
            case first =>
              go_wp2_with (first
    | ((with_reducible refine' Wl.out ?_; apply wl_box (ty := 44) (y := (.tmp 0)) hS); (· (first | (go_simp; done) | (go_simp; with_reducible rfl))); (· exact rfl); clear hS; intro w2 b2 hS)
    | ((with_reducible refine' Wl.out ?_; apply wl_box (ty := 70) (y := (.tmp 1)) hS); (· (first | (go_simp; done) | (go_simp; with_reducible rfl))); (· exact rfl); clear hS; intro w3 b3 hS)
    | ((with_reducible refine' Wl.out ?_; apply wl_load hS); (· (first | exact Try.underlying2 | exact Try.underlying3 | exact Try.underlying5)); (· exact rfl); (· exact rfl); (· (first | (apply Find.box; (· (repeat constructor)); rfl) | exact Find.mem (by assumption) | (apply Find.row; (· (repeat constructor)); assumption))))
    | ((with_reducible refine' Wl.out ?_; apply wg_load hS); (· (first | exact Try.underlying2 | exact Try.underlying3 | exact Try.underlying5)); (· exact rfl); (· (first | rfl | (go_simp; done))); (· exact rfl); (· (first | (apply Find.box; (· (repeat constructor)); rfl) | exact Find.mem (by assumption) | (apply Find.row; (· (repeat constructor)); assumption))))
    | ((with_reducible refine' Wl.out ?_; apply wl_loads hS); (· (first | exact rowT44)); (· exact rfl); (· (first | (apply Finds.box; (· (repeat constructor)); (· (repeat constructor)); done) | (refine Finds.mem2 (by assumption) ?_; first | rfl | assumption | (simp; done)) | (apply Finds.row; (· (repeat constructor)); (· assumption); (· rfl)))))
    | ((with_reducible refine' Wl.out ?_; apply wg_loads hS); (· (first | exact rowT44)); (· (first | rfl | (go_simp; done))); (· exact rfl); (· (first | (apply Finds.box; (· (repeat constructor)); (· (repeat constructor)); done) | (refine Finds.mem2 (by assumption) ?_; first | rfl | assumption | (simp; done)) | (apply Finds.row; (· (repeat constructor)); (· assumption); (· rfl)))))
    | ((with_reducible refine' Wl.out ?_); (with_reducible refine' wg_case ?_ ?_) <;> (intro hgW; (try (have hg2 := hgW; simp [go_sem] at hg2)); (first | (exfalso; assumption) | ((with_reducible refine' Wl.out ?_; apply wl_unwanted); (· exact hgW)) | ((with_reducible refine' Wl.out ?_; apply wg_load hS); (· (first | exact Try.underlying2 | exact Try.underlying3 | exact Try.underlying5)); (· exact rfl); (· exact hgW); (· exact rfl); (· (first | (apply Find.box; (· (repeat constructor)); rfl) | exact Find.mem (by assumption) | (apply Find.row; (· (repeat constructor)); assumption)))) | ((with_reducible refine' Wl.out ?_; apply wg_loads hS); (· (first | exact rowT44)); (· exact hgW); (· exact rfl); (· (first | (apply Finds.box; (· (repeat constructor)); (· (repeat constructor)); done) | (refine Finds.mem2 (by assumption) ?_; first | rfl | assumption | (simp; done)) | (apply Finds.row; (· (repeat constructor)); (· assumption); (· rfl)))))); clear hgW)))
              all_goals
                go_meet
                case rel => refine ⟨?_, rfl, rfl, rfl, rfl, rfl⟩; rw [HPP.out, partsOf]; simp_all
            case rest =>
              obtain ⟨rfl, rfl, rfl, rfl, rfl, rfl⟩ := hcut
              obtain ⟨pb1, pb2⟩ : 0 ≤ pp ∧ pp ≤ 65535 := by rw [HPP.out, partsOf]; split <;> omega
              have hpy : y4 ≤ 11 → pieceR d ⟨b, s, g, p, n⟩ (p + i) = some (at_, many, ys.take y4.toNat) := fun h11 => by
                rw [HA.out, HM.out]
                exact piece_yes (g := ⟨b, s, g, p, n⟩) (k := p + i) (ys := ys) HRE.out HE2.out (by show openN (readB d (b + (p + i))) = _; rw [← HYR.out, ← HN44.out, hN]; rfl) (by show openP (readB d (b + (p + i))) = _; rw [← HYR.out, ← HY44.out, HY.out]) h11
              have hown : y4 ≤ 11 → (ys.take y4.toNat).length = y4.toNat := fun h11 => by rw [List.length_take, HL.out]; omega
              have hstep : y4 ≤ 11 → (goodP i pp at_ many y4.toNat → rgo d ⟨b, s, g, p, n⟩ (i + 1) pp (text ++ ys.take y4.toNat) = R) ∧ (¬ goodP i pp at_ many y4.toNat → R = none) := fun h11 => by
                have h := rgo_step (d := d) (g := ⟨b, s, g, p, n⟩) (text := text) hlt (fun h => (I5.out h).1) i1 hs (hpy h11) mb.1
                rw [hown h11, ← HPP.out] at h
                exact ⟨fun hg => (h.1 hg).symm.trans HGO.out, fun hg => HGO.out.symm.trans (h.2 hg)⟩
              have hbig : ¬ y4 ≤ 11 → R = none := fun h11 => HNO.out (HPC.out fun hh => h11 (by have := hh.2.2.2; rw [← HYR.out, ← HY44.out, HY.out] at this; exact this))
              have ways : (at_ ≠ i ∧ R = none) ∨ (at_ = i ∧ many ≠ pp ∧ R = none) ∨ (at_ = i ∧ many = pp ∧ 11 < y4 ∧ R = none) ∨ (at_ = i ∧ many = pp ∧ y4 ≤ 11 ∧ (i : Int) ≠ pp - 1 ∧ y4 ≠ 11 ∧ R = none) ∨ (at_ = i ∧ many = pp ∧ y4 = 0 ∧ (i : Int) = pp - 1 ∧ pp ≠ 1 ∧ R = none) ∨
                  (at_ = i ∧ many = pp ∧ (y4 ≤ 11 ∧ y4 = 11 ∧ (i : Int) ≠ pp - 1 ∧ rgo d ⟨b, s, g, p, n⟩ (i + 1) pp (text ++ ys.take y4.toNat) = R)) ∨ (at_ = i ∧ many = pp ∧ (y4 ≤ 11 ∧ y4 ≠ 0 ∧ (i : Int) = pp - 1 ∧ rgo d ⟨b, s, g, p, n⟩ (i + 1) pp (text ++ ys.take y4.toNat) = R)) ∨ (at_ = i ∧ many = pp ∧ (y4 ≤ 11 ∧ y4 = 0 ∧ (i : Int) = pp - 1 ∧ pp = 1 ∧ rgo d ⟨b, s, g, p, n⟩ (i + 1) pp (text ++ ys.take y4.toNat) = R)) := by
                by_cases h11 : y4 ≤ 11
                · by_cases a1 : at_ = i
                  · by_cases a2 : many = pp
                    · by_cases a4 : (i : Int) = pp - 1
                      · by_cases a6 : y4 = 0
                        · by_cases a7 : pp = 1
                          · exact .inr (.inr (.inr (.inr (.inr (.inr (.inr ⟨a1, a2, h11, a6, a4, a7, (hstep h11).1 ⟨a1, a2, by omega, .inr ⟨a4, .inr a7⟩⟩⟩))))))
                          · exact .inr (.inr (.inr (.inr (.inl ⟨a1, a2, a6, a4, a7, (hstep h11).2 (by rintro ⟨_, _, _, h | ⟨_, h | h⟩⟩ <;> omega)⟩))))
                        · exact .inr (.inr (.inr (.inr (.inr (.inr (.inl ⟨a1, a2, h11, a6, a4, (hstep h11).1 ⟨a1, a2, by omega, .inr ⟨a4, .inl (by omega)⟩⟩⟩))))))
                      · by_cases a5 : y4 = 11
                        · by_cases a8 : pp = 0
                          · refine .inr (.inr (.inr (.inr (.inr (.inl ⟨a1, a2, h11, a5, a4, ?_⟩)))))
                            rw [(hstep h11).2 (fun h => h.2.2.1 a8)]
                            unfold rgo
                            rw [if_neg (by omega), if_neg (by omega), if_pos a8]
                          · exact .inr (.inr (.inr (.inr (.inr (.inl ⟨a1, a2, h11, a5, a4, (hstep h11).1 ⟨a1, a2, a8, .inl (by omega)⟩⟩)))))
                        · exact .inr (.inr (.inr (.inl ⟨a1, a2, h11, a4, a5, (hstep h11).2 (by rintro ⟨_, _, _, h | ⟨_, h | h⟩⟩ <;> omega)⟩)))
                    · exact .inr (.inl ⟨a1, a2, (hstep h11).2 fun h => a2 h.2.1⟩)
                  · exact .inl ⟨a1, (hstep h11).2 fun h => a1 h.1⟩
                · by_cases a1 : at_ = i
                  · by_cases a2 : many = pp
                    · exact .inr (.inr (.inl ⟨a1, a2, by omega, hbig h11⟩))
                    · exact .inr (.inl ⟨a1, a2, hbig h11⟩)
                  · exact .inl ⟨a1, hbig h11⟩
              have hO : y4 ≤ 11 → ∀ k c', k = y4.toNat → c' = c44 - 5 → bytesL.rd m44 [.slice (some ⟨bb, oo + 5, none⟩) k c'] (ys.take y4.toNat) := by
                rintro h11 k c' rfl rfl
                have hol := hown h11
                have hrd := rdL_part R44.out 5 (5 + y4.toNat) (by omega) (by omega)
                rw [show (Lay.int .u8).n = 1 from rfl, show oo + 5 * 1 = oo + 5 by omega, show 5 + y4.toNat - 5 = y4.toNat by omega, HY.out, show ((y0 :: y1 :: y2 :: y3 :: y4 :: ys).take (5 + y4.toNat)).drop 5 = ys.take y4.toNat by rw [List.drop_take]; simp] at hrd
                exact hrd
              have HO := Lib.hid hO
              have HOL := Lib.hid hown
              clear hO
              clear hpy hown hstep hbig HGO HNO HPC HR
              generalize ys.take y4.toNat = own at ways HO HOL
              have ew4 : IntKind.i64.wrap (pp - 1) = pp - 1 := IntWalk.i64_in _ (by omega)
              have ew5 : IntKind.i64.wrap y4 = y4 := IntWalk.i64_in _ (by omega)
              rcases ways with ⟨a1, hR⟩ | ⟨rfl, a2, hR⟩ | ⟨rfl, rfl, a3, hR⟩ | ⟨rfl, rfl, a3, a4, a5, hR⟩ | ⟨rfl, rfl, rfl, a4, a7, hR⟩ | ⟨rfl, rfl, a3, rfl, a4, hR⟩ | ⟨rfl, rfl, a3, a6, a4, hR⟩ | ⟨rfl, rfl, a3, rfl, a4, rfl, hR⟩
              all_goals (first | (have bx0 : (at_ != (i : Int)) = true := by simp; omega) | skip)
              all_goals (first | (have bx1 : (many != pp) = true := by simp; omega) | skip)
              all_goals (first | (have bx2 : ((i : Int) == many - 1) = false := by simp; omega) | skip)
              all_goals (first | (have bx3 : (y4 != 11) = true := by simp; omega) | skip)
              all_goals (first | (have bx4 : (many != 1) = true := by simp; omega) | skip)
              all_goals (first | (have bx5 : (y4 == 0) = false := by simp; omega) | skip)
              all_goals
                have HR := Lib.hid hR
                clear hR
                go_upto_region 17 with (first
    | ((with_reducible refine' Wl.out ?_; apply wl_box (ty := 44) (y := (.tmp 0)) hS); (· (first | (go_simp; done) | (go_simp; with_reducible rfl))); (· exact rfl); clear hS; intro w2 b2 hS)
    | ((with_reducible refine' Wl.out ?_; apply wl_box (ty := 70) (y := (.tmp 1)) hS); (· (first | (go_simp; done) | (go_simp; with_reducible rfl))); (· exact rfl); clear hS; intro w3 b3 hS)
    | ((with_reducible refine' Wl.out ?_; apply wl_load hS); (· (first | exact Try.underlying2 | exact Try.underlying3 | exact Try.underlying5)); (· exact rfl); (· exact rfl); (· (first | (apply Find.box; (· (repeat constructor)); rfl) | exact Find.mem (by assumption) | (apply Find.row; (· (repeat constructor)); assumption))))
    | ((with_reducible refine' Wl.out ?_; apply wg_load hS); (· (first | exact Try.underlying2 | exact Try.underlying3 | exact Try.underlying5)); (· exact rfl); (· (first | rfl | (go_simp; done))); (· exact rfl); (· (first | (apply Find.box; (· (repeat constructor)); rfl) | exact Find.mem (by assumption) | (apply Find.row; (· (repeat constructor)); assumption))))
    | ((with_reducible refine' Wl.out ?_; apply wl_loads hS); (· (first | exact rowT44)); (· exact rfl); (· (first | (apply Finds.box; (· (repeat constructor)); (· (repeat constructor)); done) | (refine Finds.mem2 (by assumption) ?_; first | rfl | assumption | (simp; done)) | (apply Finds.row; (· (repeat constructor)); (· assumption); (· rfl)))))
    | ((with_reducible refine' Wl.out ?_; apply wg_loads hS); (· (first | exact rowT44)); (· (first | rfl | (go_simp; done))); (· exact rfl); (· (first | (apply Finds.box; (· (repeat constructor)); (· (repeat constructor)); done) | (refine Finds.mem2 (by assumption) ?_; first | rfl | assumption | (simp; done)) | (apply Finds.row; (· (repeat constructor)); (· assumption); (· rfl)))))
    | ((with_reducible refine' Wl.out ?_); (with_reducible refine' wg_case ?_ ?_) <;> (intro hgW; (try (have hg2 := hgW; simp [go_sem] at hg2)); (first | (exfalso; assumption) | ((with_reducible refine' Wl.out ?_; apply wl_unwanted); (· exact hgW)) | ((with_reducible refine' Wl.out ?_; apply wg_load hS); (· (first | exact Try.underlying2 | exact Try.underlying3 | exact Try.underlying5)); (· exact rfl); (· exact hgW); (· exact rfl); (· (first | (apply Find.box; (· (repeat constructor)); rfl) | exact Find.mem (by assumption) | (apply Find.row; (· (repeat constructor)); assumption)))) | ((with_reducible refine' Wl.out ?_; apply wg_loads hS); (· (first | exact rowT44)); (· exact hgW); (· exact rfl); (· (first | (apply Finds.box; (· (repeat constructor)); (· (repeat constructor)); done) | (refine Finds.mem2 (by assumption) ?_; first | rfl | assumption | (simp; done)) | (apply Finds.row; (· (repeat constructor)); (· assumption); (· rfl)))))); clear hgW)))
                replace hS := hS.drew
                refine startL (S := Sx _ []) (by kernel_rfl) hS.sx0 (fun _ _ _ _ => trivial) (fun hHeld => ?_)
                focus (refine takeN 0 (v := ?_) rfl (by kernel_rfl) ?_ ?_; rotate_left; focus (intro w hSw; clear hSw; go_simp; try with_reducible rfl))
                try simp only [Act.put, nz1, nz2, nz3]
                focus (refine takeN 1 (v := ?_) rfl (by kernel_rfl) ?_ ?_; rotate_left; focus (intro w hSw; clear hSw; go_simp; try with_reducible rfl))
                try simp only [Act.put, nz1, nz2, nz3]
                refine takeN 2 rfl (by kernel_rfl) (yield_load rfl Try.underlying5 rfl rfl (by (first | (apply FindX.box; (· (repeat constructor)); rfl) | exact FindX.mem (by assumption)))) ?_
                try simp only [Act.put, nz1, nz2, nz3]
                focus (refine takeN 3 (v := ?_) rfl (by kernel_rfl) ?_ ?_; rotate_left; focus (intro w hSw; clear hSw; go_simp; try with_reducible rfl))
                try simp only [Act.put, nz1, nz2, nz3]
                focus (refine takeN 4 (v := ?_) rfl (by kernel_rfl) ?_ ?_; rotate_left; focus (intro w hSw; clear hSw; go_simp; try with_reducible rfl))
                try simp only [Act.put, nz1, nz2, nz3]
                focus (refine takeN 5 (v := ?_) rfl (by kernel_rfl) ?_ ?_; rotate_left; focus (intro w hSw; clear hSw; go_simp; try with_reducible rfl))
                try simp only [Act.put, nz1, nz2, nz3]
                refine takeN 6 rfl (by kernel_rfl) (yield_load rfl Try.underlying5 rfl rfl (by (first | (apply FindX.box; (· (repeat constructor)); rfl) | exact FindX.mem (by assumption)))) ?_
                try simp only [Act.put, nz1, nz2, nz3]
                focus (refine takeN 7 (v := ?_) rfl (by kernel_rfl) ?_ ?_; rotate_left; focus (intro w hSw; clear hSw; go_simp; try with_reducible rfl))
                try simp only [Act.put, nz1, nz2, nz3]
                focus (refine takeN 8 (v := ?_) rfl (by kernel_rfl) ?_ ?_; rotate_left; focus (intro w hSw; clear hSw; go_simp; try with_reducible rfl))
                try simp only [Act.put, nz1, nz2, nz3]
                focus (refine takeN 9 (v := ?_) rfl (by kernel_rfl) ?_ ?_; rotate_left; focus (intro w hSw; clear hSw; go_simp; try with_reducible rfl))
                try simp only [Act.put, nz1, nz2, nz3]
                focus (refine takeN 10 (v := ?_) rfl (by kernel_rfl) ?_ ?_; rotate_left; focus (intro w hSw; clear hSw; go_simp; try with_reducible rfl))
                try simp only [Act.put, nz1, nz2, nz3]
                focus (refine takeN 11 (v := ?_) rfl (by kernel_rfl) ?_ ?_; rotate_left; focus (intro w hSw; clear hSw; go_simp; try with_reducible rfl))
                try simp only [Act.put, nz1, nz2, nz3]
                focus (refine takeN 12 (v := ?_) rfl (by kernel_rfl) ?_ ?_; rotate_left; focus (intro w hSw; clear hSw; go_simp; try with_reducible rfl))
                try simp only [Act.put, nz1, nz2, nz3]
                first | (focus (refine takeG 13 (v := ?_) rfl (by kernel_rfl) ?_ ?_ ?_; rotate_left; (focus (first | rfl | (go_simp <;> fail))); (focus (intro w hSw; clear hSw; go_simp; try with_reducible rfl)))) | (refine skipG 13 rfl (by kernel_rfl) ?_ ?_; (focus (first | rfl | (go_simp <;> fail))))
                try simp only [Act.put, nz1, nz2, nz3]
                first | (focus (refine takeG 14 (v := ?_) rfl (by kernel_rfl) ?_ ?_ ?_; rotate_left; (focus (first | rfl | (go_simp <;> fail))); (focus (intro w hSw; clear hSw; go_simp; try with_reducible rfl)))) | (refine skipG 14 rfl (by kernel_rfl) ?_ ?_; (focus (first | rfl | (go_simp <;> fail))))
                try simp only [Act.put, nz1, nz2, nz3]
                first | (focus (refine takeG 15 (v := ?_) rfl (by kernel_rfl) ?_ ?_ ?_; rotate_left; (focus (first | rfl | (go_simp <;> fail))); (focus (intro w hSw; clear hSw; go_simp; try with_reducible rfl)))) | (refine skipG 15 rfl (by kernel_rfl) ?_ ?_; (focus (first | rfl | (go_simp <;> fail))))
                try simp only [Act.put, nz1, nz2, nz3]
                focus (refine takeN 16 (v := ?_) rfl (by kernel_rfl) ?_ ?_; rotate_left; focus (intro w hSw; clear hSw; go_simp; try with_reducible rfl))
                try simp only [Act.put, nz1, nz2, nz3]
                focus (refine takeN 17 (v := ?_) rfl (by kernel_rfl) ?_ ?_; rotate_left; focus (intro w hSw; clear hSw; go_simp; try with_reducible rfl))
                try simp only [Act.put, nz1, nz2, nz3]
                first | (focus (refine takeG 18 (v := ?_) rfl (by kernel_rfl) ?_ ?_ ?_; rotate_left; (focus (first | rfl | (go_simp <;> fail))); (focus (intro w hSw; clear hSw; go_simp; try with_reducible rfl)))) | (refine skipG 18 rfl (by kernel_rfl) ?_ ?_; (focus (first | rfl | (go_simp <;> fail))))
                try simp only [Act.put, nz1, nz2, nz3]
                first | (focus (refine takeG 19 (v := ?_) rfl (by kernel_rfl) ?_ ?_ ?_; rotate_left; (focus (first | rfl | (go_simp <;> fail))); (focus (intro w hSw; clear hSw; go_simp; try with_reducible rfl)))) | (refine skipG 19 rfl (by kernel_rfl) ?_ ?_; (focus (first | rfl | (go_simp <;> fail))))
                try simp only [Act.put, nz1, nz2, nz3]
                focus (refine takeN 20 (v := ?_) rfl (by kernel_rfl) ?_ ?_; rotate_left; focus (intro w hSw; clear hSw; go_simp; try with_reducible rfl))
                try simp only [Act.put, nz1, nz2, nz3]
                focus (refine takeN 21 (v := ?_) rfl (by kernel_rfl) ?_ ?_; rotate_left; focus (intro w hSw; clear hSw; go_simp; try with_reducible rfl))
                try simp only [Act.put, nz1, nz2, nz3]
                first | (focus (refine takeG 22 (v := ?_) rfl (by kernel_rfl) ?_ ?_ ?_; rotate_left; (focus (first | rfl | (go_simp <;> fail))); (focus (intro w hSw; clear hSw; go_simp; try with_reducible rfl)))) | (refine skipG 22 rfl (by kernel_rfl) ?_ ?_; (focus (first | rfl | (go_simp <;> fail))))
                try simp only [Act.put, nz1, nz2, nz3]
                first | (focus (refine takeG 23 (v := ?_) rfl (by kernel_rfl) ?_ ?_ ?_; rotate_left; (focus (first | rfl | (go_simp <;> fail))); (focus (intro w hSw; clear hSw; go_simp; try with_reducible rfl)))) | (refine skipG 23 rfl (by kernel_rfl) ?_ ?_; (focus (first | rfl | (go_simp <;> fail))))
                try simp only [Act.put, nz1, nz2, nz3]
                first | (focus (refine takeG 24 (v := ?_) rfl (by kernel_rfl) ?_ ?_ ?_; rotate_left; (focus (first | rfl | (go_simp <;> fail))); (focus (intro w hSw; clear hSw; go_simp; try with_reducible rfl)))) | (refine skipG 24 rfl (by kernel_rfl) ?_ ?_; (focus (first | rfl | (go_simp <;> fail))))
                try simp only [Act.put, nz1, nz2, nz3]
                first | (focus (refine takeG 25 (v := ?_) rfl (by kernel_rfl) ?_ ?_ ?_; rotate_left; (focus (first | rfl | (go_simp <;> fail))); (focus (intro w hSw; clear hSw; go_simp; try with_reducible rfl)))) | (refine skipG 25 rfl (by kernel_rfl) ?_ ?_; (focus (first | rfl | (go_simp <;> fail))))
                try simp only [Act.put, nz1, nz2, nz3]
                first | (focus (refine takeG 26 (v := ?_) rfl (by kernel_rfl) ?_ ?_ ?_; rotate_left; (focus (first | rfl | (go_simp <;> fail))); (focus (intro w hSw; clear hSw; go_simp; try with_reducible rfl)))) | (refine skipG 26 rfl (by kernel_rfl) ?_ ?_; (focus (first | rfl | (go_simp <;> fail))))
                try simp only [Act.put, nz1, nz2, nz3]
                first | (focus (refine takeG 27 (v := ?_) rfl (by kernel_rfl) ?_ ?_ ?_; rotate_left; (focus (first | rfl | (go_simp <;> fail))); (focus (intro w hSw; clear hSw; go_simp; try with_reducible rfl)))) | (refine skipG 27 rfl (by kernel_rfl) ?_ ?_; (focus (first | rfl | (go_simp <;> fail))))
                try simp only [Act.put, nz1, nz2, nz3]
                focus (refine takeN 28 (v := ?_) rfl (by kernel_rfl) ?_ ?_; rotate_left; focus (intro w hSw; clear hSw; go_simp; try with_reducible rfl))
                try simp only [Act.put, nz1, nz2, nz3]
                focus (refine takeN 29 (v := ?_) rfl (by kernel_rfl) ?_ ?_; rotate_left; focus (intro w hSw; clear hSw; go_simp; try with_reducible rfl))
                try simp only [Act.put, nz1, nz2, nz3]
                first | (focus (refine takeG 30 (v := ?_) rfl (by kernel_rfl) ?_ ?_ ?_; rotate_left; (focus (first | rfl | (go_simp <;> fail))); (focus (intro w hSw; clear hSw; go_simp; try with_reducible rfl)))) | (refine skipG 30 rfl (by kernel_rfl) ?_ ?_; (focus (first | rfl | (go_simp <;> fail))))
                try simp only [Act.put, nz1, nz2, nz3]
                first | (focus (refine takeG 31 (v := ?_) rfl (by kernel_rfl) ?_ ?_ ?_; rotate_left; (focus (first | rfl | (go_simp <;> fail))); (focus (intro w hSw; clear hSw; go_simp; try with_reducible rfl)))) | (refine skipG 31 rfl (by kernel_rfl) ?_ ?_; (focus (first | rfl | (go_simp <;> fail))))
                try simp only [Act.put, nz1, nz2, nz3]
                first | (focus (refine takeG 32 (v := ?_) rfl (by kernel_rfl) ?_ ?_ ?_; rotate_left; (focus (first | rfl | (go_simp <;> fail))); (focus (intro w hSw; clear hSw; go_simp; try with_reducible rfl)))) | (refine skipG 32 rfl (by kernel_rfl) ?_ ?_; (focus (first | rfl | (go_simp <;> fail))))
                try simp only [Act.put, nz1, nz2, nz3]
                first | (focus (refine takeG 33 (v := ?_) rfl (by kernel_rfl) ?_ ?_ ?_; rotate_left; (focus (first | rfl | (go_simp <;> fail))); (focus (intro w hSw; clear hSw; go_simp; try with_reducible rfl)))) | (refine skipG 33 rfl (by kernel_rfl) ?_ ?_; (focus (first | rfl | (go_simp <;> fail))))
                try simp only [Act.put, nz1, nz2, nz3]
                first | (focus (refine takeG 34 (v := ?_) rfl (by kernel_rfl) ?_ ?_ ?_; rotate_left; (focus (first | rfl | (go_simp <;> fail))); (focus (intro w hSw; clear hSw; go_simp; try with_reducible rfl)))) | (refine skipG 34 rfl (by kernel_rfl) ?_ ?_; (focus (first | rfl | (go_simp <;> fail))))
                try simp only [Act.put, nz1, nz2, nz3]
                first | (focus (refine takeG 35 (v := ?_) rfl (by kernel_rfl) ?_ ?_ ?_; rotate_left; (focus (first | rfl | (go_simp <;> fail))); (focus (intro w hSw; clear hSw; go_simp; try with_reducible rfl)))) | (refine skipG 35 rfl (by kernel_rfl) ?_ ?_; (focus (first | rfl | (go_simp <;> fail))))
                try simp only [Act.put, nz1, nz2, nz3]
                focus (refine takeN 36 (v := ?_) rfl (by kernel_rfl) ?_ ?_; rotate_left; focus (intro w hSw; clear hSw; go_simp; try with_reducible rfl))
                try simp only [Act.put, nz1, nz2, nz3]
                refine wpAnyH_done (by kernel_rfl) ?_ _
                refine NoPanic.normal ?_
                go_wp2_with (first
    | ((with_reducible refine' Wl.out ?_; apply wl_box (ty := 44) (y := (.tmp 0)) hS); (· (first | (go_simp; done) | (go_simp; with_reducible rfl))); (· exact rfl); clear hS; intro w2 b2 hS)
    | ((with_reducible refine' Wl.out ?_; apply wl_box (ty := 70) (y := (.tmp 1)) hS); (· (first | (go_simp; done) | (go_simp; with_reducible rfl))); (· exact rfl); clear hS; intro w3 b3 hS)
    | ((with_reducible refine' Wl.out ?_; apply wl_load hS); (· (first | exact Try.underlying2 | exact Try.underlying3 | exact Try.underlying5)); (· exact rfl); (· exact rfl); (· (first | (apply Find.box; (· (repeat constructor)); rfl) | exact Find.mem (by assumption) | (apply Find.row; (· (repeat constructor)); assumption))))
    | ((with_reducible refine' Wl.out ?_; apply wg_load hS); (· (first | exact Try.underlying2 | exact Try.underlying3 | exact Try.underlying5)); (· exact rfl); (· (first | rfl | (go_simp; done))); (· exact rfl); (· (first | (apply Find.box; (· (repeat constructor)); rfl) | exact Find.mem (by assumption) | (apply Find.row; (· (repeat constructor)); assumption))))
    | ((with_reducible refine' Wl.out ?_; apply wl_loads hS); (· (first | exact rowT44)); (· exact rfl); (· (first | (apply Finds.box; (· (repeat constructor)); (· (repeat constructor)); done) | (refine Finds.mem2 (by assumption) ?_; first | rfl | assumption | (simp; done)) | (apply Finds.row; (· (repeat constructor)); (· assumption); (· rfl)))))
    | ((with_reducible refine' Wl.out ?_; apply wg_loads hS); (· (first | exact rowT44)); (· (first | rfl | (go_simp; done))); (· exact rfl); (· (first | (apply Finds.box; (· (repeat constructor)); (· (repeat constructor)); done) | (refine Finds.mem2 (by assumption) ?_; first | rfl | assumption | (simp; done)) | (apply Finds.row; (· (repeat constructor)); (· assumption); (· rfl)))))
    | ((with_reducible refine' Wl.out ?_); (with_reducible refine' wg_case ?_ ?_) <;> (intro hgW; (try (have hg2 := hgW; simp [go_sem] at hg2)); (first | (exfalso; assumption) | ((with_reducible refine' Wl.out ?_; apply wl_unwanted); (· exact hgW)) | ((with_reducible refine' Wl.out ?_; apply wg_load hS); (· (first | exact Try.underlying2 | exact Try.underlying3 | exact Try.underlying5)); (· exact rfl); (· exact hgW); (· exact rfl); (· (first | (apply Find.box; (· (repeat constructor)); rfl) | exact Find.mem (by assumption) | (apply Find.row; (· (repeat constructor)); assumption)))) | ((with_reducible refine' Wl.out ?_; apply wg_loads hS); (· (first | exact rowT44)); (· exact hgW); (· exact rfl); (· (first | (apply Finds.box; (· (repeat constructor)); (· (repeat constructor)); done) | (refine Finds.mem2 (by assumption) ?_; first | rfl | assumption | (simp; done)) | (apply Finds.row; (· (repeat constructor)); (· assumption); (· rfl)))))); clear hgW))
                  | ((with_reducible refine' Wl.out ?_; apply wl_append u8L el_u8 hS (by decide)); (· exact rfl); (· (repeat constructor)); (· exact rfl); (· exact HO.out (by omega) _ _ (by omega) (by omega)); (· have hol := HOL.out (by omega); simp only [Lay.int, kBytes]; omega); clear hS; intro w124 q124 c124 news124 hc124 hS; obtain ⟨rfl, hok⟩ := cellsInt hc124; have HOK := Lib.hid hok; clear hc124 hok))
              iterate 5
                · rw [HR.out]
                  go_ret3
                  exact ⟨_, _, rfl, ⟨_, _, _, _, rfl⟩, hS.done⟩
              iterate 3
                · skip
                  have hol := HOL.out (by omega)
                  have hlen : text.length + own.length = (text ++ own).length := by simp
                  have hmap : text.map (Value.int .u8) ++ own.map (Value.int .u8) = (text ++ own).map (Value.int .u8) := by simp
                  have hpp := HPP.out
                  unfold partsOf at hpp
                  rw [hlen, hmap] at hS
                  rw [hlen]
                  refine ⟨?_, ?_⟩
                  · refine ⟨i + 1, _, q124, c124, text ++ own, m44, rfl, rfl, (by first | rfl | (congr 1; omega)), ⟨by omega, by simp; omega, by omega, by omega, fun h => absurd h (by omega), by split at hpp <;> omega⟩, HR, A1, Lib.hid fun x hx => ?_, hS⟩
                    rcases List.mem_append.1 hx with h | h
                    · exact HK.out x h
                    · exact HOK.out x h
                  · simp [intOf]; omega
          · have hx : (N44 != g * 1048576 + 524288 + n) = true := by simp [hN]
            have HR := Lib.hid (NO (PC (fun hh => hN (by rw [HN44.out, HYR.out]; exact hh.2.2.1))))
            clear NO PC HE44' HGO
            go_wp2_with (first
    | ((with_reducible refine' Wl.out ?_; apply wl_box (ty := 44) (y := (.tmp 0)) hS); (· (first | (go_simp; done) | (go_simp; with_reducible rfl))); (· exact rfl); clear hS; intro w2 b2 hS)
    | ((with_reducible refine' Wl.out ?_; apply wl_box (ty := 70) (y := (.tmp 1)) hS); (· (first | (go_simp; done) | (go_simp; with_reducible rfl))); (· exact rfl); clear hS; intro w3 b3 hS)
    | ((with_reducible refine' Wl.out ?_; apply wl_load hS); (· (first | exact Try.underlying2 | exact Try.underlying3 | exact Try.underlying5)); (· exact rfl); (· exact rfl); (· (first | (apply Find.box; (· (repeat constructor)); rfl) | exact Find.mem (by assumption) | (apply Find.row; (· (repeat constructor)); assumption))))
    | ((with_reducible refine' Wl.out ?_; apply wg_load hS); (· (first | exact Try.underlying2 | exact Try.underlying3 | exact Try.underlying5)); (· exact rfl); (· (first | rfl | (go_simp; done))); (· exact rfl); (· (first | (apply Find.box; (· (repeat constructor)); rfl) | exact Find.mem (by assumption) | (apply Find.row; (· (repeat constructor)); assumption))))
    | ((with_reducible refine' Wl.out ?_; apply wl_loads hS); (· (first | exact rowT44)); (· exact rfl); (· (first | (apply Finds.box; (· (repeat constructor)); (· (repeat constructor)); done) | (refine Finds.mem2 (by assumption) ?_; first | rfl | assumption | (simp; done)) | (apply Finds.row; (· (repeat constructor)); (· assumption); (· rfl)))))
    | ((with_reducible refine' Wl.out ?_; apply wg_loads hS); (· (first | exact rowT44)); (· (first | rfl | (go_simp; done))); (· exact rfl); (· (first | (apply Finds.box; (· (repeat constructor)); (· (repeat constructor)); done) | (refine Finds.mem2 (by assumption) ?_; first | rfl | assumption | (simp; done)) | (apply Finds.row; (· (repeat constructor)); (· assumption); (· rfl)))))
    | ((with_reducible refine' Wl.out ?_); (with_reducible refine' wg_case ?_ ?_) <;> (intro hgW; (try (have hg2 := hgW; simp [go_sem] at hg2)); (first | (exfalso; assumption) | ((with_reducible refine' Wl.out ?_; apply wl_unwanted); (· exact hgW)) | ((with_reducible refine' Wl.out ?_; apply wg_load hS); (· (first | exact Try.underlying2 | exact Try.underlying3 | exact Try.underlying5)); (· exact rfl); (· exact hgW); (· exact rfl); (· (first | (apply Find.box; (· (repeat constructor)); rfl) | exact Find.mem (by assumption) | (apply Find.row; (· (repeat constructor)); assumption)))) | ((with_reducible refine' Wl.out ?_; apply wg_loads hS); (· (first | exact rowT44)); (· exact hgW); (· exact rfl); (· (first | (apply Finds.box; (· (repeat constructor)); (· (repeat constructor)); done) | (refine Finds.mem2 (by assumption) ?_; first | rfl | assumption | (simp; done)) | (apply Finds.row; (· (repeat constructor)); (· assumption); (· rfl)))))); clear hgW)))
            all_goals
              rw [HR.out]
              go_ret3
              exact ⟨_, _, rfl, ⟨_, _, _, _, rfl⟩, hS.done⟩

        · have hx : (E44 != 0) = true := by simp [hE]
          have HR := Lib.hid (NO (PC (fun hh => hE (by rw [← HE44']; exact hh.2.1))))
          clear NO PC HE44' HGO
          go_wp2_with (first
    | ((with_reducible refine' Wl.out ?_; apply wl_box (ty := 44) (y := (.tmp 0)) hS); (· (first | (go_simp; done) | (go_simp; with_reducible rfl))); (· exact rfl); clear hS; intro w2 b2 hS)
    | ((with_reducible refine' Wl.out ?_; apply wl_box (ty := 70) (y := (.tmp 1)) hS); (· (first | (go_simp; done) | (go_simp; with_reducible rfl))); (· exact rfl); clear hS; intro w3 b3 hS)
    | ((with_reducible refine' Wl.out ?_; apply wl_load hS); (· (first | exact Try.underlying2 | exact Try.underlying3 | exact Try.underlying5)); (· exact rfl); (· exact rfl); (· (first | (apply Find.box; (· (repeat constructor)); rfl) | exact Find.mem (by assumption) | (apply Find.row; (· (repeat constructor)); assumption))))
    | ((with_reducible refine' Wl.out ?_; apply wg_load hS); (· (first | exact Try.underlying2 | exact Try.underlying3 | exact Try.underlying5)); (· exact rfl); (· (first | rfl | (go_simp; done))); (· exact rfl); (· (first | (apply Find.box; (· (repeat constructor)); rfl) | exact Find.mem (by assumption) | (apply Find.row; (· (repeat constructor)); assumption))))
    | ((with_reducible refine' Wl.out ?_; apply wl_loads hS); (· (first | exact rowT44)); (· exact rfl); (· (first | (apply Finds.box; (· (repeat constructor)); (· (repeat constructor)); done) | (refine Finds.mem2 (by assumption) ?_; first | rfl | assumption | (simp; done)) | (apply Finds.row; (· (repeat constructor)); (· assumption); (· rfl)))))
    | ((with_reducible refine' Wl.out ?_; apply wg_loads hS); (· (first | exact rowT44)); (· (first | rfl | (go_simp; done))); (· exact rfl); (· (first | (apply Finds.box; (· (repeat constructor)); (· (repeat constructor)); done) | (refine Finds.mem2 (by assumption) ?_; first | rfl | assumption | (simp; done)) | (apply Finds.row; (· (repeat constructor)); (· assumption); (· rfl)))))
    | ((with_reducible refine' Wl.out ?_); (with_reducible refine' wg_case ?_ ?_) <;> (intro hgW; (try (have hg2 := hgW; simp [go_sem] at hg2)); (first | (exfalso; assumption) | ((with_reducible refine' Wl.out ?_; apply wl_unwanted); (· exact hgW)) | ((with_reducible refine' Wl.out ?_; apply wg_load hS); (· (first | exact Try.underlying2 | exact Try.underlying3 | exact Try.underlying5)); (· exact rfl); (· exact hgW); (· exact rfl); (· (first | (apply Find.box; (· (repeat constructor)); rfl) | exact Find.mem (by assumption) | (apply Find.row; (· (repeat constructor)); assumption)))) | ((with_reducible refine' Wl.out ?_; apply wg_loads hS); (· (first | exact rowT44)); (· exact hgW); (· exact rfl); (· (first | (apply Finds.box; (· (repeat constructor)); (· (repeat constructor)); done) | (refine Finds.mem2 (by assumption) ?_; first | rfl | assumption | (simp; done)) | (apply Finds.row; (· (repeat constructor)); (· assumption); (· rfl)))))); clear hgW)))
          all_goals
            rw [HR.out]
            go_ret3
            exact ⟨_, _, rfl, ⟨_, _, _, _, rfl⟩, hS.done⟩
      · have hR : R = none := HGO.out.symm.trans (rgo_none (g := ⟨b, s, g, p, n⟩) hlt (fun h => (I5.out h).1) i1 (fun h => absurd h hs))
        have HR := Lib.hid hR
        clear hR HGO
        go_wp2_with (first
    | ((with_reducible refine' Wl.out ?_; apply wl_box (ty := 44) (y := (.tmp 0)) hS); (· (first | (go_simp; done) | (go_simp; with_reducible rfl))); (· exact rfl); clear hS; intro w2 b2 hS)
    | ((with_reducible refine' Wl.out ?_; apply wl_box (ty := 70) (y := (.tmp 1)) hS); (· (first | (go_simp; done) | (go_simp; with_reducible rfl))); (· exact rfl); clear hS; intro w3 b3 hS)
    | ((with_reducible refine' Wl.out ?_; apply wl_load hS); (· (first | exact Try.underlying2 | exact Try.underlying3 | exact Try.underlying5)); (· exact rfl); (· exact rfl); (· (first | (apply Find.box; (· (repeat constructor)); rfl) | exact Find.mem (by assumption) | (apply Find.row; (· (repeat constructor)); assumption))))
    | ((with_reducible refine' Wl.out ?_; apply wg_load hS); (· (first | exact Try.underlying2 | exact Try.underlying3 | exact Try.underlying5)); (· exact rfl); (· (first | rfl | (go_simp; done))); (· exact rfl); (· (first | (apply Find.box; (· (repeat constructor)); rfl) | exact Find.mem (by assumption) | (apply Find.row; (· (repeat constructor)); assumption))))
    | ((with_reducible refine' Wl.out ?_; apply wl_loads hS); (· (first | exact rowT44)); (· exact rfl); (· (first | (apply Finds.box; (· (repeat constructor)); (· (repeat constructor)); done) | (refine Finds.mem2 (by assumption) ?_; first | rfl | assumption | (simp; done)) | (apply Finds.row; (· (repeat constructor)); (· assumption); (· rfl)))))
    | ((with_reducible refine' Wl.out ?_; apply wg_loads hS); (· (first | exact rowT44)); (· (first | rfl | (go_simp; done))); (· exact rfl); (· (first | (apply Finds.box; (· (repeat constructor)); (· (repeat constructor)); done) | (refine Finds.mem2 (by assumption) ?_; first | rfl | assumption | (simp; done)) | (apply Finds.row; (· (repeat constructor)); (· assumption); (· rfl)))))
    | ((with_reducible refine' Wl.out ?_); (with_reducible refine' wg_case ?_ ?_) <;> (intro hgW; (try (have hg2 := hgW; simp [go_sem] at hg2)); (first | (exfalso; assumption) | ((with_reducible refine' Wl.out ?_; apply wl_unwanted); (· exact hgW)) | ((with_reducible refine' Wl.out ?_; apply wg_load hS); (· (first | exact Try.underlying2 | exact Try.underlying3 | exact Try.underlying5)); (· exact rfl); (· exact hgW); (· exact rfl); (· (first | (apply Find.box; (· (repeat constructor)); rfl) | exact Find.mem (by assumption) | (apply Find.row; (· (repeat constructor)); assumption)))) | ((with_reducible refine' Wl.out ?_; apply wg_loads hS); (· (first | exact rowT44)); (· exact hgW); (· exact rfl); (· (first | (apply Finds.box; (· (repeat constructor)); (· (repeat constructor)); done) | (refine Finds.mem2 (by assumption) ?_; first | rfl | assumption | (simp; done)) | (apply Finds.row; (· (repeat constructor)); (· assumption); (· rfl)))))); clear hgW)))
        all_goals
          rw [HR.out]
          go_ret3
          exact ⟨_, _, rfl, ⟨_, _, _, _, rfl⟩, hS.done⟩
    · have hlen : ∀ x ∈ text, InK .u8 x := HK.out
      have hR : R = if parts = 0 then none else some (text, parts) := by
        rw [← HGO.out]; unfold rgo
        rw [if_neg (fun h => by have := (I5.out h).2; omega), if_neg hlt]
      have HR := Lib.hid hR
      clear hR HGO
      by_cases hp0 : parts = 0
      · subst hp0
        go_wp2_with (first
    | ((with_reducible refine' Wl.out ?_; apply wl_box (ty := 44) (y := (.tmp 0)) hS); (· (first | (go_simp; done) | (go_simp; with_reducible rfl))); (· exact rfl); clear hS; intro w2 b2 hS)
    | ((with_reducible refine' Wl.out ?_; apply wl_box (ty := 70) (y := (.tmp 1)) hS); (· (first | (go_simp; done) | (go_simp; with_reducible rfl))); (· exact rfl); clear hS; intro w3 b3 hS)
    | ((with_reducible refine' Wl.out ?_; apply wl_load hS); (· (first | exact Try.underlying2 | exact Try.underlying3 | exact Try.underlying5)); (· exact rfl); (· exact rfl); (· (first | (apply Find.box; (· (repeat constructor)); rfl) | exact Find.mem (by assumption) | (apply Find.row; (· (repeat constructor)); assumption))))
    | ((with_reducible refine' Wl.out ?_; apply wg_load hS); (· (first | exact Try.underlying2 | exact Try.underlying3 | exact Try.underlying5)); (· exact rfl); (· (first | rfl | (go_simp; done))); (· exact rfl); (· (first | (apply Find.box; (· (repeat constructor)); rfl) | exact Find.mem (by assumption) | (apply Find.row; (· (repeat constructor)); assumption))))
    | ((with_reducible refine' Wl.out ?_; apply wl_loads hS); (· (first | exact rowT44)); (· exact rfl); (· (first | (apply Finds.box; (· (repeat constructor)); (· (repeat constructor)); done) | (refine Finds.mem2 (by assumption) ?_; first | rfl | assumption | (simp; done)) | (apply Finds.row; (· (repeat constructor)); (· assumption); (· rfl)))))
    | ((with_reducible refine' Wl.out ?_; apply wg_loads hS); (· (first | exact rowT44)); (· (first | rfl | (go_simp; done))); (· exact rfl); (· (first | (apply Finds.box; (· (repeat constructor)); (· (repeat constructor)); done) | (refine Finds.mem2 (by assumption) ?_; first | rfl | assumption | (simp; done)) | (apply Finds.row; (· (repeat constructor)); (· assumption); (· rfl)))))
    | ((with_reducible refine' Wl.out ?_); (with_reducible refine' wg_case ?_ ?_) <;> (intro hgW; (try (have hg2 := hgW; simp [go_sem] at hg2)); (first | (exfalso; assumption) | ((with_reducible refine' Wl.out ?_; apply wl_unwanted); (· exact hgW)) | ((with_reducible refine' Wl.out ?_; apply wg_load hS); (· (first | exact Try.underlying2 | exact Try.underlying3 | exact Try.underlying5)); (· exact rfl); (· exact hgW); (· exact rfl); (· (first | (apply Find.box; (· (repeat constructor)); rfl) | exact Find.mem (by assumption) | (apply Find.row; (· (repeat constructor)); assumption)))) | ((with_reducible refine' Wl.out ?_; apply wg_loads hS); (· (first | exact rowT44)); (· exact hgW); (· exact rfl); (· (first | (apply Finds.box; (· (repeat constructor)); (· (repeat constructor)); done) | (refine Finds.mem2 (by assumption) ?_; first | rfl | assumption | (simp; done)) | (apply Finds.row; (· (repeat constructor)); (· assumption); (· rfl)))))); clear hgW)))
        all_goals
          rw [HR.out]
          simp only [if_true]
          go_ret3
          exact ⟨_, _, rfl, ⟨_, _, _, _, rfl⟩, hS.done⟩
      · have hpos : 0 < parts := by omega
        go_wp2_with (first
    | ((with_reducible refine' Wl.out ?_; apply wl_box (ty := 44) (y := (.tmp 0)) hS); (· (first | (go_simp; done) | (go_simp; with_reducible rfl))); (· exact rfl); clear hS; intro w2 b2 hS)
    | ((with_reducible refine' Wl.out ?_; apply wl_box (ty := 70) (y := (.tmp 1)) hS); (· (first | (go_simp; done) | (go_simp; with_reducible rfl))); (· exact rfl); clear hS; intro w3 b3 hS)
    | ((with_reducible refine' Wl.out ?_; apply wl_load hS); (· (first | exact Try.underlying2 | exact Try.underlying3 | exact Try.underlying5)); (· exact rfl); (· exact rfl); (· (first | (apply Find.box; (· (repeat constructor)); rfl) | exact Find.mem (by assumption) | (apply Find.row; (· (repeat constructor)); assumption))))
    | ((with_reducible refine' Wl.out ?_; apply wg_load hS); (· (first | exact Try.underlying2 | exact Try.underlying3 | exact Try.underlying5)); (· exact rfl); (· (first | rfl | (go_simp; done))); (· exact rfl); (· (first | (apply Find.box; (· (repeat constructor)); rfl) | exact Find.mem (by assumption) | (apply Find.row; (· (repeat constructor)); assumption))))
    | ((with_reducible refine' Wl.out ?_; apply wl_loads hS); (· (first | exact rowT44)); (· exact rfl); (· (first | (apply Finds.box; (· (repeat constructor)); (· (repeat constructor)); done) | (refine Finds.mem2 (by assumption) ?_; first | rfl | assumption | (simp; done)) | (apply Finds.row; (· (repeat constructor)); (· assumption); (· rfl)))))
    | ((with_reducible refine' Wl.out ?_; apply wg_loads hS); (· (first | exact rowT44)); (· (first | rfl | (go_simp; done))); (· exact rfl); (· (first | (apply Finds.box; (· (repeat constructor)); (· (repeat constructor)); done) | (refine Finds.mem2 (by assumption) ?_; first | rfl | assumption | (simp; done)) | (apply Finds.row; (· (repeat constructor)); (· assumption); (· rfl)))))
    | ((with_reducible refine' Wl.out ?_); (with_reducible refine' wg_case ?_ ?_) <;> (intro hgW; (try (have hg2 := hgW; simp [go_sem] at hg2)); (first | (exfalso; assumption) | ((with_reducible refine' Wl.out ?_; apply wl_unwanted); (· exact hgW)) | ((with_reducible refine' Wl.out ?_; apply wg_load hS); (· (first | exact Try.underlying2 | exact Try.underlying3 | exact Try.underlying5)); (· exact rfl); (· exact hgW); (· exact rfl); (· (first | (apply Find.box; (· (repeat constructor)); rfl) | exact Find.mem (by assumption) | (apply Find.row; (· (repeat constructor)); assumption)))) | ((with_reducible refine' Wl.out ?_; apply wg_loads hS); (· (first | exact rowT44)); (· exact hgW); (· exact rfl); (· (first | (apply Finds.box; (· (repeat constructor)); (· (repeat constructor)); done) | (refine Finds.mem2 (by assumption) ?_; first | rfl | assumption | (simp; done)) | (apply Finds.row; (· (repeat constructor)); (· assumption); (· rfl)))))); clear hgW)))
        all_goals
          obtain ⟨m7, hS7, hle7, hrd⟩ := hS.settleRow' (L := u8L) (xs := text) 0 rfl rfl (cells_of_ints HK.out) (by simp [Lay.int, kBytes]; omega)
          rw [HR.out, if_neg hp0]
          go_ret3
          exact ⟨_, _, rfl, ⟨_, _, rfl, hrd⟩, hS7.done⟩
end Go.Proofs.Ytnmgiiaejpaeeaa
