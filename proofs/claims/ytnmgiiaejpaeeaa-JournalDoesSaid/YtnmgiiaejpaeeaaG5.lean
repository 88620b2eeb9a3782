/- Contracts and plain laws that the laws' proofs use, laid together (part 5). -/
import Derived.Test.YtnmgiiaejpaeeaaG4
import Derived.Test.YtnmgiiaejpaeeaaStamp6
import Derived.Lib.SmallJoins
/- Reading journals: all groups: the plain functions; contracts of both Scans. -/
namespace Go.Proofs.Ytnmgiiaejpaeeaa
set_option linter.unusedVariables false
set_option linter.unusedSimpArgs false
open Go.RowKit Go.Shelf
/-- All groups from a journal's end on. -/
def scanGo (d : Dk) (b s g : Int) : Nat → Int → List (List Int) → List (List Int) × Int
  | 0, p, l => (l, p)
  | f + 1, p, l =>
    match groupR d ⟨b, s, g, p, (l.length : Int)⟩ with
    | none => (l, p)
    | some (t, k) => scanGo d b s g f (p + k) (l ++ [t])
def scanE (d : Dk) (b s g : Int) : Int := if thereB d ⟨b, s, g, 0, 0⟩ then (if d.dead then 11 else 0) else 1
def scanT (d : Dk) (b s g : Int) : List (List Int) := if scanE d b s g = 0 then (scanGo d b s g 4097 0 []).1 else []
def scanL (d : Dk) (b s g : Int) : Lg := if scanE d b s g = 0 then ⟨b, s, g, (scanGo d b s g 4097 0 []).2, ((scanGo d b s g 4097 0 []).1.length : Int)⟩ else lg0
/-- Texts, a journal, and an error, are handed back. -/
def RetTLE (w : World) (m : Mem) (l : List (List Int)) (g : Lg) (e : Int) : Ending → World → Prop :=
  Ret w m fun v m' => ∃ vl, v = .tuple #[vl, .agg (lgV g).toArray, .int .i64 e] ∧ textsL.rd m' [vl] l
theorem group_span {d : Dk} {g : Lg} (hN : ∀ k a n own, pieceR d g k = some (a, n, own) → 0 ≤ n) : ∀ (f i : Nat) (parts : Int) (text t : List Int) (k : Int), (i = 0 ∨ (i : Int) < parts) → groupGo d g f i parts text = some (t, k) → (i : Int) + 1 ≤ k ∧ g.pos + k ≤ g.size
  | 0, _, _, _, _, _, _, h => by cases h
  | f + 1, i, parts, text, t, k, h0, h => by
    rw [groupGo] at h
    split at h
    · rename_i hs
      split at h
      · cases h
      · rename_i at_ many own hp
        split at h
        · rename_i hg
          split at h
          · rename_i hlt
            have := group_span hN f (i + 1) _ _ t k (.inr (by omega)) h
            omega
          · rename_i hge
            cases h
            obtain ⟨_, h2, h3, h4⟩ := hg
            unfold partsOf at *
            by_cases hi : i = 0
            · subst hi
              rw [if_pos rfl] at *
              simp at *
              have := hN _ _ _ _ hp
              omega
            · rw [if_neg hi] at *
              have := h0.resolve_left hi
              omega
        · cases h
    · cases h
def Octets (d : Dk) : Prop := (∀ x ∈ d.dry, InK .u8 x) ∧ ∀ y ∈ d.wet, ∀ x ∈ y.b, InK .u8 x
theorem inK8 {x : Int} (h : InK .u8 x) : 0 ≤ x ∧ x < 256 := inK_isB (xs := [x]) (fun y hy => by simp at hy; rw [hy]; exact h) x (by simp)
theorem piece_nonneg {d : Dk} {g : Lg} (h : Octets d) (k a n : Int) (own : List Int) (hp : pieceR d g k = some (a, n, own)) : 0 ≤ n ∧ n ≤ 65535 := by
  unfold pieceR at hp
  split at hp
  · rename_i hh
    obtain ⟨_, h2, _, _⟩ := hh
    have hb : IsB (openP (readB d (g.base + k))) := by
      rw [show openP (readB d (g.base + k)) = ((readB d (g.base + k)).drop 8).take 16 from if_pos h2]
      exact fun x hx => inK8 (readB_inK h _ x (List.mem_of_mem_drop (List.mem_of_mem_take hx)))
    obtain ⟨y0, y1, y2, y3, y4, ys, e, _⟩ := open16 h2
    rw [e] at hp hb
    simp only [Option.some.injEq, Prod.mk.injEq] at hp
    obtain ⟨_, rfl, _⟩ := hp
    have h2 := hb y2 (by simp)
    have h3 := hb y3 (by simp)
    simp
    omega
  · cases hp
theorem groupR_span {d : Dk} {g : Lg} (h : Octets d) {t : List Int} {k : Int} (hg : groupR d g = some (t, k)) : 1 ≤ k ∧ g.pos + k ≤ g.size := by
  have := group_span (fun k a n own hp => (piece_nonneg h k a n own hp).1) 4097 0 0 [] t k (.inl rfl) hg
  omega
theorem scan_some {d : Dk} {b s g p k : Int} {f : Nat} {l : List (List Int)} {t : List Int} (h : groupR d ⟨b, s, g, p, (l.length : Int)⟩ = some (t, k)) : scanGo d b s g (f + 1) p l = scanGo d b s g f (p + k) (l ++ [t]) := by rw [scanGo, h]
theorem scan_none {d : Dk} {b s g p : Int} {f : Nat} {l : List (List Int)} (h : groupR d ⟨b, s, g, p, (l.length : Int)⟩ = none) : scanGo d b s g (f + 1) p l = (l, p) := by rw [scanGo, h]
theorem scan_yes {d : Dk} {b s g p : Int} {l : List (List Int)} (h : scanE d b s g = 0) (hs : scanGo d b s g 4097 0 [] = (l, p)) : scanT d b s g = l ∧ scanL d b s g = ⟨b, s, g, p, (l.length : Int)⟩ := by
  unfold scanT scanL; rw [if_pos h, if_pos h, hs]; exact ⟨rfl, rfl⟩
theorem scan_no {d : Dk} {b s g : Int} (h : scanE d b s g ≠ 0) : scanT d b s g = [] ∧ scanL d b s g = lg0 := by
  unfold scanT scanL; rw [if_neg h, if_neg h]; exact ⟨rfl, rfl⟩
theorem el_bytes : Elem Try.prog 73 22 1 24 (.slice none 0 0) := ⟨Try.underlying73, by kernel_rfl, rfl, by decide⟩
theorem ret_tct {P : Program} {X : List Nat} {w0 w : World} {m0 m : Mem} {es : List Ent} {fn : Func} {R : Ending → World → Prop} {a : Act} {t q u : Tmp} {tz : TypeId} {c k : Nat} {us : List Value} (h : fn.results = #[.tmp t, .cell q tz, .tmp u]) (hq : a.tmps.getD q undef = .pointer (some ⟨c, 0, none⟩)) (hS : St X w0 m0 w es m) (hN : Ent.box c us ∈ es) (hk : us.length = k)
    (hz : ∃ d, P.underlying tz = some d ∧ d.isRow = true ∧ (P.info? tz).map (·.size) = some k) (hd : a.defers = []) (hR : R (.returned (.tuple #[a.tmps.getD t undef, .agg us.toArray, a.tmps.getD u undef])) w) : bodyPost P fn R .ret a w := by
  obtain ⟨e, k1, k2, k3⟩ := hz
  have hc : BoxIn w c us := (hS.has _ hN).1
  have hrun2 := run_loadVar_mid (P := P) w c 0 tz us e (fun j v hj => by rw [Nat.zero_add]; exact (hc.get j v hj).1) k1 k2 (by rw [hk]; exact k3)
  have hq' : a.tmps[q]?.getD undef = .pointer (some ⟨c, 0, none⟩) := by simpa using hq
  refine bodyPost_ret_by ?_ hd hR
  simp [results, h, hq', asAddr, hrun2]
section
variable {ops : Array Oper} {P : Program} {X : List Nat} {w0 w : World} {m0 m : Mem} {es : List Ent} {o : Oper} {a : Act} {K : Act → World → Prop} {Q : Exit → Act → World → Prop}
variable {rest : List Oper} {dst : Option Tmp} {rt : TypeId} {pos : String} {af : Array Edge}
theorem wl_litO {t e : TypeId} {bytes : Nat} {z : Value} (hE : Elem P t e 1 bytes z) {y : Operand} (hS : St X w0 m0 w es m) {v : Value} (hy : a.eval y = v) (h1 : v.cells = #[v])
    (h : ∀ w' b, St X w0 m0 w' (.box b [v] :: es) m → wpList P ops Q rest (a.put dst (.slice (some ⟨b, 0, none⟩) 1 1)) w') : Wl P ops Q (⟨dst, .buildSlice t 1 #[(0, y)], rt, pos, af, none⟩ :: rest) a w := by
  refine wl_lit hE hS (cs := [v]) (by decide) (by decide) ?_ h
  have hz := hE.zsize
  have e1 : Array.range (1 * 1) = #[0] := by decide
  simp only [e1, List.map_toArray, List.map_cons, List.map_nil, hy]
  simp [Instr.fill, h1]
end
/-- bytes.Clone, read from now on. -/
theorem bclone_v (m : Mem) (w : World) (hm : m.In w) (v : Value) (xs : List Int) (h : bytesL.rd m [v] xs) : Calls Try.prog 73 #[v] w (Ret w m fun v' m' => bytesL.rd m' [v'] xs) :=
  (bclone_c m w hm v h).mono fun e w' ⟨q, c, cells, h1, h2, h3⟩ => by
    obtain ⟨_, _, _, _, _, hb, _⟩ := Lay.list_open h
    obtain ⟨m', k1, _, k3⟩ := h3.settleRow' (L := u8L) 0 rfl rfl h2 hb
    exact ⟨_, m', h1, k3, k1.done⟩
end Go.Proofs.Ytnmgiiaejpaeeaa
/- Reading journals: contracts of both Scans. -/
namespace Go.Proofs.Ytnmgiiaejpaeeaa
set_option linter.unusedVariables false
set_option linter.unusedSimpArgs false
open Go.RowKit Go.Shelf
set_option maxRecDepth 100000 in
set_option maxHeartbeats 8000000 in
theorem jscan_c (m : Mem) (w : World) (hm : m.In w) (cs : List Value) (d : Dk) (hd : dkL.rd m cs d) (b s g : Int) :
    Calls Try.prog 56 #[.agg cs.toArray, .int .i64 b, .int .i64 s, .int .i64 g] w (RetTLE w m (scanT d b s g) (scanL d b s g) (scanE d b s g)) := by
  obtain ⟨p0, c0, q0, a0, rfl, A0⟩ := dkL_cells hd
  have HO := Lib.hid (show Octets d from octets_of hd)
  have hS := St.start hm
  clear hd
  by_cases hg : lgOK ⟨b, s, g, 0, 0⟩
  · have LE : Hid (lcheckE ⟨b, s, g, 0, 0⟩ = 0) := lcheck_zero.2 hg
    have LO : Hid (lopenG b s g = ⟨b, s, g, 0, 0⟩) := lopen_ok hg
    have HG := Lib.hid hg
    obtain ⟨g1, g2, g3, g4, g5, g6, _, _, _, _⟩ := hg
    simp only at g1 g2 g3 g4 g5 g6
    rcases hth : thereB d ⟨b, s, g, 0, 0⟩ with _ | _
    · have TB := Lib.hid hth
      have SE : Hid (scanE d b s g = 1) := by show _ = _; unfold scanE; rw [hth]; rfl
      clear hth
      go_enter Try.func56, Try.ntmps56
      go_wp2_with (first
    | ((with_reducible refine' Wl.out ?_; apply wl_box (ty := 44) (y := (.tmp 0)) hS); (· (first | (go_simp; done) | (go_simp; with_reducible rfl))); (· exact rfl); clear hS; intro w4 b4 hS)
    | ((with_reducible refine' Wl.out ?_; apply wl_alloc (ty := 70) (dst := some 9) hS (.agg #[.int .i64 0, .int .i64 0, .int .i64 0, .int .i64 0, .int .i64 0]) [.int .i64 0, .int .i64 0, .int .i64 0, .int .i64 0, .int .i64 0]); (· kernel_rfl); (· rfl); clear hS; intro w9 b9 hS)
    | ((with_reducible refine' Wl.out ?_; apply wl_alloc (ty := 70) (dst := some 11) hS (.agg #[.int .i64 0, .int .i64 0, .int .i64 0, .int .i64 0, .int .i64 0]) [.int .i64 0, .int .i64 0, .int .i64 0, .int .i64 0, .int .i64 0]); (· kernel_rfl); (· rfl); clear hS; intro w11 b11 hS)
    | ((with_reducible refine' Wl.out ?_; apply wl_load hS); (· (first | exact Try.underlying2 | exact Try.underlying3)); (· exact rfl); (· exact rfl); (· (first | (apply Find.box; (· (repeat constructor)); rfl) | exact Find.mem (by assumption) | (apply Find.row; (· (repeat constructor)); assumption))))
    | ((with_reducible refine' Wl.out ?_; apply wg_load hS); (· (first | exact Try.underlying2 | exact Try.underlying3)); (· exact rfl); (· (first | rfl | (go_simp; done))); (· exact rfl); (· (first | (apply Find.box; (· (repeat constructor)); rfl) | exact Find.mem (by assumption) | (apply Find.row; (· (repeat constructor)); assumption))))
    | ((with_reducible refine' Wl.out ?_; apply wl_loads hS); (· (first | exact rowT44 | exact rowT70)); (· exact rfl); (· (first | (apply Finds.box; (· (repeat constructor)); (· (repeat constructor)); done) | (refine Finds.mem2 (by assumption) ?_; first | rfl | assumption | (simp; done)) | (apply Finds.row; (· (repeat constructor)); (· assumption); (· rfl)))))
    | ((with_reducible refine' Wl.out ?_; apply wg_loads hS); (· (first | exact rowT44 | exact rowT70)); (· (first | rfl | (go_simp; done))); (· exact rfl); (· (first | (apply Finds.box; (· (repeat constructor)); (· (repeat constructor)); done) | (refine Finds.mem2 (by assumption) ?_; first | rfl | assumption | (simp; done)) | (apply Finds.row; (· (repeat constructor)); (· assumption); (· rfl)))))
    | ((with_reducible refine' Wl.out ?_); (with_reducible refine' wg_case ?_ ?_) <;> (intro hgW; (try (have hg2 := hgW; simp [go_sem] at hg2)); (first | (exfalso; assumption) | ((with_reducible refine' Wl.out ?_; apply wl_unwanted); (· exact hgW)) | ((with_reducible refine' Wl.out ?_; apply wg_load hS); (· (first | exact Try.underlying2 | exact Try.underlying3)); (· exact rfl); (· exact hgW); (· exact rfl); (· (first | (apply Find.box; (· (repeat constructor)); rfl) | exact Find.mem (by assumption) | (apply Find.row; (· (repeat constructor)); assumption)))) | ((with_reducible refine' Wl.out ?_; apply wg_loads hS); (· (first | exact rowT44 | exact rowT70)); (· exact hgW); (· exact rfl); (· (first | (apply Finds.box; (· (repeat constructor)); (· (repeat constructor)); done) | (refine Finds.mem2 (by assumption) ?_; first | rfl | assumption | (simp; done)) | (apply Finds.row; (· (repeat constructor)); (· assumption); (· rfl)))))); clear hgW))
    | ((with_reducible refine' Wl.out ?_; apply wl_store hS); (· (first | exact rowT2 | exact rowT3)); (· exact rfl); (· (first | (go_simp; done) | (go_simp; with_reducible rfl))); (· (first | rfl | assumption | (simp [Value.oneCell']; done))); (· (repeat constructor)); (· (repeat constructor)); (· (repeat constructor)); clear hS; intro ws hS)
    | ((with_reducible refine' Wl.out ?_; apply wl_storeR hS); (· (first | exact rowT2 | exact rowT3)); (· exact rfl); (· (first | (go_simp; done) | (go_simp; with_reducible rfl))); (· (first | rfl | assumption | (simp [Value.oneCell']; done))); (· (repeat constructor)); (· (first | assumption | omega | (simp; omega))); clear hS; intro ws hS)
    | ((with_reducible refine' Wl.out ?_; apply wl_stores hS); (· (first | exact rowT70)); (· exact rfl); (· exact rfl); (· exact rfl); (· (first | assumption | (simp [Value.oneCell']; done))); (· (repeat constructor)); (· (repeat constructor)); (· (repeat constructor)); clear hS; intro ws hS)
    | (go_at_call 60; (fail_if_success (clear Mk22)); refine (letLE (jopen_c _ _ hS.inw _ _ _)).mono ?_; rintro e' w22 ⟨_, m22, rfl, ⟨G22, E22, HG22, HE22, rfl⟩, hk⟩; replace hS := hS.call hk; (try replace A0 := Lib.hid (Lay.mono _ hk.le A0.out)); (try replace R37 := Lib.hid (Lay.mono _ hk.le R37.out)); (try replace HC := Lib.hid (CellsOf.mono hk.le HC.out)); (try replace HC2 := Lib.hid (CellsOf.mono hk.le HC2.out)); clear hk; replace HE22 := Lib.hid (HE22.out.trans LE.out); obtain rfl := HE22.out; replace HG22 := Lib.hid (HG22.out.trans LO.out); obtain rfl := HG22.out; have Mk22 := True.intro)
    | (go_at_call 87; (fail_if_success (clear Mk30)); refine (letB (there_c _ _ hS.inw _ _ (by first | exact A0.out | exact R37.out | exact dkL_dry A0.out | exact Lay.nil_rd _ _) _ _ _ _ _)).mono ?_; rintro e' w30 ⟨_, m30, rfl, ⟨B30, HB30, rfl⟩, hk⟩; replace hS := hS.call hk; (try replace A0 := Lib.hid (Lay.mono _ hk.le A0.out)); (try replace R37 := Lib.hid (Lay.mono _ hk.le R37.out)); (try replace HC := Lib.hid (CellsOf.mono hk.le HC.out)); (try replace HC2 := Lib.hid (CellsOf.mono hk.le HC2.out)); clear hk; replace HB30 := Lib.hid (HB30.out.trans TB.out); obtain rfl := HB30.out; have Mk30 := True.intro)
    | (go_at_call 39; (fail_if_success (clear Mk37)); refine (letBE (read_c _ _ hS.inw _ _ (by first | exact A0.out | exact R37.out | exact dkL_dry A0.out | exact Lay.nil_rd _ _) _)).mono ?_; rintro e' w37 ⟨_, m37, rfl, ⟨p37, c37, Y37, E37, HY37, HE37, rfl, R37, C37⟩, hk⟩; replace hS := hS.call hk; (try replace A0 := Lib.hid (Lay.mono _ hk.le A0.out)); (try replace R37 := Lib.hid (Lay.mono _ hk.le R37.out)); (try replace HC := Lib.hid (CellsOf.mono hk.le HC.out)); (try replace HC2 := Lib.hid (CellsOf.mono hk.le HC2.out)); clear hk; replace HE37 := Lib.hid (HE37.out.trans RE.out); obtain rfl := HE37.out; have Mk37 := True.intro))
      refine ret_tct (k := 5) rfl rfl hS (by (repeat constructor)) rfl lgRow rfl ?_
      rw [(scan_no (d := d) (b := b) (s := s) (g := g) (by rw [SE.out]; decide)).1, (scan_no (d := d) (b := b) (s := s) (g := g) (by rw [SE.out]; decide)).2, SE.out]
      exact ⟨_, _, rfl, ⟨_, rfl, Lay.nil_rd _ _⟩, hS.done⟩

    · have TB := Lib.hid hth
      have hok := of_decide_eq_true (show decide _ = true from hth)
      rcases hdd : d.dead with _ | _
      · have SE : Hid (scanE d b s g = 0) := by show _ = _; unfold scanE; rw [hth, hdd]; rfl
        have RE : Hid (readE d b = 0) := by
          show _ = _
          unfold readE
          rw [if_neg (by rw [alive_of_ok hok.1 hdd]; decide), if_neg]
          have := hok.2.2
          simp only at this
          unfold farD
          simp only [decide_eq_true_eq]
          omega
        rw [hdd] at A0
        clear hth hok
        go_enter Try.func56, Try.ntmps56
        go_wp2_with (first
    | ((with_reducible refine' Wl.out ?_; apply wl_box (ty := 44) (y := (.tmp 0)) hS); (· (first | (go_simp; done) | (go_simp; with_reducible rfl))); (· exact rfl); clear hS; intro w4 b4 hS)
    | ((with_reducible refine' Wl.out ?_; apply wl_alloc (ty := 70) (dst := some 9) hS (.agg #[.int .i64 0, .int .i64 0, .int .i64 0, .int .i64 0, .int .i64 0]) [.int .i64 0, .int .i64 0, .int .i64 0, .int .i64 0, .int .i64 0]); (· kernel_rfl); (· rfl); clear hS; intro w9 b9 hS)
    | ((with_reducible refine' Wl.out ?_; apply wl_alloc (ty := 70) (dst := some 11) hS (.agg #[.int .i64 0, .int .i64 0, .int .i64 0, .int .i64 0, .int .i64 0]) [.int .i64 0, .int .i64 0, .int .i64 0, .int .i64 0, .int .i64 0]); (· kernel_rfl); (· rfl); clear hS; intro w11 b11 hS)
    | ((with_reducible refine' Wl.out ?_; apply wl_load hS); (· (first | exact Try.underlying2 | exact Try.underlying3)); (· exact rfl); (· exact rfl); (· (first | (apply Find.box; (· (repeat constructor)); rfl) | exact Find.mem (by assumption) | (apply Find.row; (· (repeat constructor)); assumption))))
    | ((with_reducible refine' Wl.out ?_; apply wg_load hS); (· (first | exact Try.underlying2 | exact Try.underlying3)); (· exact rfl); (· (first | rfl | (go_simp; done))); (· exact rfl); (· (first | (apply Find.box; (· (repeat constructor)); rfl) | exact Find.mem (by assumption) | (apply Find.row; (· (repeat constructor)); assumption))))
    | ((with_reducible refine' Wl.out ?_; apply wl_loads hS); (· (first | exact rowT44 | exact rowT70)); (· exact rfl); (· (first | (apply Finds.box; (· (repeat constructor)); (· (repeat constructor)); done) | (refine Finds.mem2 (by assumption) ?_; first | rfl | assumption | (simp; done)) | (apply Finds.row; (· (repeat constructor)); (· assumption); (· rfl)))))
    | ((with_reducible refine' Wl.out ?_; apply wg_loads hS); (· (first | exact rowT44 | exact rowT70)); (· (first | rfl | (go_simp; done))); (· exact rfl); (· (first | (apply Finds.box; (· (repeat constructor)); (· (repeat constructor)); done) | (refine Finds.mem2 (by assumption) ?_; first | rfl | assumption | (simp; done)) | (apply Finds.row; (· (repeat constructor)); (· assumption); (· rfl)))))
    | ((with_reducible refine' Wl.out ?_); (with_reducible refine' wg_case ?_ ?_) <;> (intro hgW; (try (have hg2 := hgW; simp [go_sem] at hg2)); (first | (exfalso; assumption) | ((with_reducible refine' Wl.out ?_; apply wl_unwanted); (· exact hgW)) | ((with_reducible refine' Wl.out ?_; apply wg_load hS); (· (first | exact Try.underlying2 | exact Try.underlying3)); (· exact rfl); (· exact hgW); (· exact rfl); (· (first | (apply Find.box; (· (repeat constructor)); rfl) | exact Find.mem (by assumption) | (apply Find.row; (· (repeat constructor)); assumption)))) | ((with_reducible refine' Wl.out ?_; apply wg_loads hS); (· (first | exact rowT44 | exact rowT70)); (· exact hgW); (· exact rfl); (· (first | (apply Finds.box; (· (repeat constructor)); (· (repeat constructor)); done) | (refine Finds.mem2 (by assumption) ?_; first | rfl | assumption | (simp; done)) | (apply Finds.row; (· (repeat constructor)); (· assumption); (· rfl)))))); clear hgW))
    | ((with_reducible refine' Wl.out ?_; apply wl_store hS); (· (first | exact rowT2 | exact rowT3)); (· exact rfl); (· (first | (go_simp; done) | (go_simp; with_reducible rfl))); (· (first | rfl | assumption | (simp [Value.oneCell']; done))); (· (repeat constructor)); (· (repeat constructor)); (· (repeat constructor)); clear hS; intro ws hS)
    | ((with_reducible refine' Wl.out ?_; apply wl_storeR hS); (· (first | exact rowT2 | exact rowT3)); (· exact rfl); (· (first | (go_simp; done) | (go_simp; with_reducible rfl))); (· (first | rfl | assumption | (simp [Value.oneCell']; done))); (· (repeat constructor)); (· (first | assumption | omega | (simp; omega))); clear hS; intro ws hS)
    | ((with_reducible refine' Wl.out ?_; apply wl_stores hS); (· (first | exact rowT70)); (· exact rfl); (· exact rfl); (· exact rfl); (· (first | assumption | (simp [Value.oneCell']; done))); (· (repeat constructor)); (· (repeat constructor)); (· (repeat constructor)); clear hS; intro ws hS)
    | (go_at_call 60; (fail_if_success (clear Mk22)); refine (letLE (jopen_c _ _ hS.inw _ _ _)).mono ?_; rintro e' w22 ⟨_, m22, rfl, ⟨G22, E22, HG22, HE22, rfl⟩, hk⟩; replace hS := hS.call hk; (try replace A0 := Lib.hid (Lay.mono _ hk.le A0.out)); (try replace R37 := Lib.hid (Lay.mono _ hk.le R37.out)); (try replace HC := Lib.hid (CellsOf.mono hk.le HC.out)); (try replace HC2 := Lib.hid (CellsOf.mono hk.le HC2.out)); clear hk; replace HE22 := Lib.hid (HE22.out.trans LE.out); obtain rfl := HE22.out; replace HG22 := Lib.hid (HG22.out.trans LO.out); obtain rfl := HG22.out; have Mk22 := True.intro)
    | (go_at_call 87; (fail_if_success (clear Mk30)); refine (letB (there_c _ _ hS.inw _ _ (by first | exact A0.out | exact R37.out | exact dkL_dry A0.out | exact Lay.nil_rd _ _) _ _ _ _ _)).mono ?_; rintro e' w30 ⟨_, m30, rfl, ⟨B30, HB30, rfl⟩, hk⟩; replace hS := hS.call hk; (try replace A0 := Lib.hid (Lay.mono _ hk.le A0.out)); (try replace R37 := Lib.hid (Lay.mono _ hk.le R37.out)); (try replace HC := Lib.hid (CellsOf.mono hk.le HC.out)); (try replace HC2 := Lib.hid (CellsOf.mono hk.le HC2.out)); clear hk; replace HB30 := Lib.hid (HB30.out.trans TB.out); obtain rfl := HB30.out; have Mk30 := True.intro)
    | (go_at_call 39; (fail_if_success (clear Mk37)); refine (letBE (read_c _ _ hS.inw _ _ (by first | exact A0.out | exact R37.out | exact dkL_dry A0.out | exact Lay.nil_rd _ _) _)).mono ?_; rintro e' w37 ⟨_, m37, rfl, ⟨p37, c37, Y37, E37, HY37, HE37, rfl, R37, C37⟩, hk⟩; replace hS := hS.call hk; (try replace A0 := Lib.hid (Lay.mono _ hk.le A0.out)); (try replace R37 := Lib.hid (Lay.mono _ hk.le R37.out)); (try replace HC := Lib.hid (CellsOf.mono hk.le HC.out)); (try replace HC2 := Lib.hid (CellsOf.mono hk.le HC2.out)); clear hk; replace HE37 := Lib.hid (HE37.out.trans RE.out); obtain rfl := HE37.out; have Mk37 := True.intro))
        replace hS := hS.nilRow 22 1
        obtain ⟨R, hR⟩ : ∃ R, R = scanGo d b s g 4097 0 [] := ⟨_, rfl⟩
        have HR := Lib.hid hR
        clear hR
        go_loopw [8] (fun vl wr => ∃ (p : Int) (l : List (List Int)) (cells : List Value) (q : Option Addr) (c : Nat) (m' : Mem), vl = .slice q l.length c ∧ (0 ≤ p ∧ p ≤ s ∧ (l.length : Int) ≤ p) ∧ Hid (scanGo d b s g (4097 - l.length) p l = R) ∧ Hid (dkL.rd m' [.slice p0 d.dry.length c0, .slice q0 d.wet.length a0, .int .i64 d.fuse, .bool false] d) ∧ Hid (CellsOf bytesL m' cells l) ∧
          St [] w m wr [.row 22 1 (.slice q l.length c) l.length cells, .box b11 [.int .i64 b, .int .i64 s, .int .i64 g, .int .i64 p, .int .i64 l.length], .box b9 [.int .i64 0, .int .i64 0, .int .i64 0, .int .i64 0, .int .i64 0], .box b4 [.slice p0 d.dry.length c0, .slice q0 d.wet.length a0, .int .i64 d.fuse, .bool false]] m') (fun vl _ => 4097 - lenOf vl)
        case atStart => exact ⟨0, [], [], none, 0, _, rfl, ⟨by omega, by omega, by simp⟩, HR.out.symm, A0, Lib.hid (CellsOf.nil _ _), hS⟩
        case round =>
          clear hS A0
          obtain ⟨p, l, cells, q, c, m', rfl, ⟨p1, p2, p3⟩, HGO, A0, HC, hS⟩ := hrel
          have HGK := Lib.hid (show lgOK ⟨b, s, g, p, (l.length : Int)⟩ by simp only [lgOK]; omega)
          have hlt : (l.length : Int) < 262144 := by omega
          have hf : 4097 - l.length = (4096 - l.length) + 1 := by omega
          rcases hgr : groupR d ⟨b, s, g, p, (l.length : Int)⟩ with _ | ⟨t, k⟩
          · have hR : R = (l, p) := by rw [← HGO.out, hf]; exact scan_none hgr
            have HGR := Lib.hid hgr
            have HRR := Lib.hid hR
            clear hgr hR HGO
            go_wp2_with (first
    | ((with_reducible refine' Wl.out ?_; apply wl_box (ty := 44) (y := (.tmp 0)) hS); (· (first | (go_simp; done) | (go_simp; with_reducible rfl))); (· exact rfl); clear hS; intro w4 b4 hS)
    | ((with_reducible refine' Wl.out ?_; apply wl_alloc (ty := 70) (dst := some 9) hS (.agg #[.int .i64 0, .int .i64 0, .int .i64 0, .int .i64 0, .int .i64 0]) [.int .i64 0, .int .i64 0, .int .i64 0, .int .i64 0, .int .i64 0]); (· kernel_rfl); (· rfl); clear hS; intro w9 b9 hS)
    | ((with_reducible refine' Wl.out ?_; apply wl_alloc (ty := 70) (dst := some 11) hS (.agg #[.int .i64 0, .int .i64 0, .int .i64 0, .int .i64 0, .int .i64 0]) [.int .i64 0, .int .i64 0, .int .i64 0, .int .i64 0, .int .i64 0]); (· kernel_rfl); (· rfl); clear hS; intro w11 b11 hS)
    | ((with_reducible refine' Wl.out ?_; apply wl_load hS); (· (first | exact Try.underlying2 | exact Try.underlying3)); (· exact rfl); (· exact rfl); (· (first | (apply Find.box; (· (repeat constructor)); rfl) | exact Find.mem (by assumption) | (apply Find.row; (· (repeat constructor)); assumption))))
    | ((with_reducible refine' Wl.out ?_; apply wg_load hS); (· (first | exact Try.underlying2 | exact Try.underlying3)); (· exact rfl); (· (first | rfl | (go_simp; done))); (· exact rfl); (· (first | (apply Find.box; (· (repeat constructor)); rfl) | exact Find.mem (by assumption) | (apply Find.row; (· (repeat constructor)); assumption))))
    | ((with_reducible refine' Wl.out ?_; apply wl_loads hS); (· (first | exact rowT44 | exact rowT70)); (· exact rfl); (· (first | (apply Finds.box; (· (repeat constructor)); (· (repeat constructor)); done) | (refine Finds.mem2 (by assumption) ?_; first | rfl | assumption | (simp; done)) | (apply Finds.row; (· (repeat constructor)); (· assumption); (· rfl)))))
    | ((with_reducible refine' Wl.out ?_; apply wg_loads hS); (· (first | exact rowT44 | exact rowT70)); (· (first | rfl | (go_simp; done))); (· exact rfl); (· (first | (apply Finds.box; (· (repeat constructor)); (· (repeat constructor)); done) | (refine Finds.mem2 (by assumption) ?_; first | rfl | assumption | (simp; done)) | (apply Finds.row; (· (repeat constructor)); (· assumption); (· rfl)))))
    | ((with_reducible refine' Wl.out ?_); (with_reducible refine' wg_case ?_ ?_) <;> (intro hgW; (try (have hg2 := hgW; simp [go_sem] at hg2)); (first | (exfalso; assumption) | ((with_reducible refine' Wl.out ?_; apply wl_unwanted); (· exact hgW)) | ((with_reducible refine' Wl.out ?_; apply wg_load hS); (· (first | exact Try.underlying2 | exact Try.underlying3)); (· exact rfl); (· exact hgW); (· exact rfl); (· (first | (apply Find.box; (· (repeat constructor)); rfl) | exact Find.mem (by assumption) | (apply Find.row; (· (repeat constructor)); assumption)))) | ((with_reducible refine' Wl.out ?_; apply wg_loads hS); (· (first | exact rowT44 | exact rowT70)); (· exact hgW); (· exact rfl); (· (first | (apply Finds.box; (· (repeat constructor)); (· (repeat constructor)); done) | (refine Finds.mem2 (by assumption) ?_; first | rfl | assumption | (simp; done)) | (apply Finds.row; (· (repeat constructor)); (· assumption); (· rfl)))))); clear hgW))
    | ((with_reducible refine' Wl.out ?_; apply wl_store hS); (· (first | exact rowT2 | exact rowT3)); (· exact rfl); (· (first | (go_simp; done) | (go_simp; with_reducible rfl))); (· (first | rfl | assumption | (simp [Value.oneCell']; done))); (· (repeat constructor)); (· (repeat constructor)); (· (repeat constructor)); clear hS; intro ws hS)
    | ((with_reducible refine' Wl.out ?_; apply wl_storeR hS); (· (first | exact rowT2 | exact rowT3)); (· exact rfl); (· (first | (go_simp; done) | (go_simp; with_reducible rfl))); (· (first | rfl | assumption | (simp [Value.oneCell']; done))); (· (repeat constructor)); (· (first | assumption | omega | (simp; omega))); clear hS; intro ws hS)
    | ((with_reducible refine' Wl.out ?_; apply wl_stores hS); (· (first | exact rowT70)); (· exact rfl); (· exact rfl); (· exact rfl); (· (first | assumption | (simp [Value.oneCell']; done))); (· (repeat constructor)); (· (repeat constructor)); (· (repeat constructor)); clear hS; intro ws hS)
              | (go_at_call 91; refine (jgroup_c _ _ hS.inw _ _ A0.out _ _ _ _ _ HGK.out).mono ?_; rw [HGR.out]; rintro e' w50 ⟨_, m50, rfl, ⟨q50, n50, c50, k50, rfl⟩, hk⟩; replace hS := hS.call hk; replace A0 := Lib.hid (Lay.mono _ hk.le A0.out); replace HC := Lib.hid (CellsOf.mono hk.le HC.out); clear hk))
            replace hS := hS.drew
            refine startL (S := Sx _ [(b11, _)]) (by kernel_rfl) (hS.sx0.cons hS (by (repeat constructor))) (fun _ _ _ _ => trivial) (fun hHeld => ?_)
            focus (refine takeN 0 (v := ?_) rfl (by kernel_rfl) ?_ ?_; rotate_left; focus (intro w hSw; clear hSw; go_simp; try with_reducible rfl))
            try simp only [Act.put, nz1, nz2, nz3]
            refine takeN 1 rfl (by kernel_rfl) (yield_loads rfl rowT70 rfl (by (first | (apply FindsX.box; (· (repeat constructor)); (· (repeat constructor)); done) | (refine FindsX.mem (by assumption) ?_; first | rfl | assumption | (simp; done))))) ?_
            try simp only [Act.put, nz1, nz2, nz3]
            focus (refine takeN 2 (v := ?_) rfl (by kernel_rfl) ?_ ?_; rotate_left; focus (intro w hSw; clear hSw; go_simp; try with_reducible rfl))
            try simp only [Act.put, nz1, nz2, nz3]
            refine wpAnyH_ready (rs := [3]) (by kernel_rfl) (by simp) ?_
            refine consL 3 rfl (fun K hK => ?_) AllReadyH.nil
            (with_reducible apply s_stores hS); (· exact rowT70); (· exact rfl); (· exact rfl); (· exact rfl); (· (first | assumption | (simp [Value.oneCell']; done))); (· (repeat constructor)); (· (repeat constructor)); (· (repeat constructor)); clear hS; intro ws hS
            refine hK.out _ _ (by first | exact (hS.sx0.cons hS (by (repeat constructor))) | exact Sx.le (by assumption) (hS.sx0.cons hS (by (repeat constructor)))) (fun hHeld => ?_)
            clear hK K
            try simp only [Act.put, nz1, nz2, nz3]
            focus (refine takeN 4 (v := ?_) rfl (by kernel_rfl) ?_ ?_; rotate_left; focus (intro w hSw; clear hSw; go_simp; try with_reducible rfl))
            try simp only [Act.put, nz1, nz2, nz3]
            refine wpAnyH_done (by kernel_rfl) ?_ _
            refine NoPanic.normal ?_
            all_goals
              go_wp2_with (first
    | ((with_reducible refine' Wl.out ?_; apply wl_box (ty := 44) (y := (.tmp 0)) hS); (· (first | (go_simp; done) | (go_simp; with_reducible rfl))); (· exact rfl); clear hS; intro w4 b4 hS)
    | ((with_reducible refine' Wl.out ?_; apply wl_alloc (ty := 70) (dst := some 9) hS (.agg #[.int .i64 0, .int .i64 0, .int .i64 0, .int .i64 0, .int .i64 0]) [.int .i64 0, .int .i64 0, .int .i64 0, .int .i64 0, .int .i64 0]); (· kernel_rfl); (· rfl); clear hS; intro w9 b9 hS)
    | ((with_reducible refine' Wl.out ?_; apply wl_alloc (ty := 70) (dst := some 11) hS (.agg #[.int .i64 0, .int .i64 0, .int .i64 0, .int .i64 0, .int .i64 0]) [.int .i64 0, .int .i64 0, .int .i64 0, .int .i64 0, .int .i64 0]); (· kernel_rfl); (· rfl); clear hS; intro w11 b11 hS)
    | ((with_reducible refine' Wl.out ?_; apply wl_load hS); (· (first | exact Try.underlying2 | exact Try.underlying3)); (· exact rfl); (· exact rfl); (· (first | (apply Find.box; (· (repeat constructor)); rfl) | exact Find.mem (by assumption) | (apply Find.row; (· (repeat constructor)); assumption))))
    | ((with_reducible refine' Wl.out ?_; apply wg_load hS); (· (first | exact Try.underlying2 | exact Try.underlying3)); (· exact rfl); (· (first | rfl | (go_simp; done))); (· exact rfl); (· (first | (apply Find.box; (· (repeat constructor)); rfl) | exact Find.mem (by assumption) | (apply Find.row; (· (repeat constructor)); assumption))))
    | ((with_reducible refine' Wl.out ?_; apply wl_loads hS); (· (first | exact rowT44 | exact rowT70)); (· exact rfl); (· (first | (apply Finds.box; (· (repeat constructor)); (· (repeat constructor)); done) | (refine Finds.mem2 (by assumption) ?_; first | rfl | assumption | (simp; done)) | (apply Finds.row; (· (repeat constructor)); (· assumption); (· rfl)))))
    | ((with_reducible refine' Wl.out ?_; apply wg_loads hS); (· (first | exact rowT44 | exact rowT70)); (· (first | rfl | (go_simp; done))); (· exact rfl); (· (first | (apply Finds.box; (· (repeat constructor)); (· (repeat constructor)); done) | (refine Finds.mem2 (by assumption) ?_; first | rfl | assumption | (simp; done)) | (apply Finds.row; (· (repeat constructor)); (· assumption); (· rfl)))))
    | ((with_reducible refine' Wl.out ?_); (with_reducible refine' wg_case ?_ ?_) <;> (intro hgW; (try (have hg2 := hgW; simp [go_sem] at hg2)); (first | (exfalso; assumption) | ((with_reducible refine' Wl.out ?_; apply wl_unwanted); (· exact hgW)) | ((with_reducible refine' Wl.out ?_; apply wg_load hS); (· (first | exact Try.underlying2 | exact Try.underlying3)); (· exact rfl); (· exact hgW); (· exact rfl); (· (first | (apply Find.box; (· (repeat constructor)); rfl) | exact Find.mem (by assumption) | (apply Find.row; (· (repeat constructor)); assumption)))) | ((with_reducible refine' Wl.out ?_; apply wg_loads hS); (· (first | exact rowT44 | exact rowT70)); (· exact hgW); (· exact rfl); (· (first | (apply Finds.box; (· (repeat constructor)); (· (repeat constructor)); done) | (refine Finds.mem2 (by assumption) ?_; first | rfl | assumption | (simp; done)) | (apply Finds.row; (· (repeat constructor)); (· assumption); (· rfl)))))); clear hgW))
    | ((with_reducible refine' Wl.out ?_; apply wl_store hS); (· (first | exact rowT2 | exact rowT3)); (· exact rfl); (· (first | (go_simp; done) | (go_simp; with_reducible rfl))); (· (first | rfl | assumption | (simp [Value.oneCell']; done))); (· (repeat constructor)); (· (repeat constructor)); (· (repeat constructor)); clear hS; intro ws hS)
    | ((with_reducible refine' Wl.out ?_; apply wl_storeR hS); (· (first | exact rowT2 | exact rowT3)); (· exact rfl); (· (first | (go_simp; done) | (go_simp; with_reducible rfl))); (· (first | rfl | assumption | (simp [Value.oneCell']; done))); (· (repeat constructor)); (· (first | assumption | omega | (simp; omega))); clear hS; intro ws hS)
    | ((with_reducible refine' Wl.out ?_; apply wl_stores hS); (· (first | exact rowT70)); (· exact rfl); (· exact rfl); (· exact rfl); (· (first | assumption | (simp [Value.oneCell']; done))); (· (repeat constructor)); (· (repeat constructor)); (· (repeat constructor)); clear hS; intro ws hS))
              obtain ⟨m7, hS7, hle7, hrd⟩ := hS.settleRow' (L := bytesL) (xs := l) 0 rfl rfl HC.out (by simp [Lay.list]; omega)
              simp only [List.eraseIdx_cons_zero] at hS7
              have hyes := scan_yes SE.out (HR.out.symm.trans HRR.out)
              refine ret_tct (k := 5) rfl rfl hS7 (by (repeat constructor)) rfl lgRow rfl ?_
              rw [hyes.1, hyes.2, SE.out]
              exact ⟨_, _, rfl, ⟨_, rfl, hrd⟩, hS7.done⟩
          · have hsp := groupR_span HO.out hgr
            simp only at hsp
            obtain ⟨k1, k2⟩ := hsp
            have hR : scanGo d b s g (4097 - (l ++ [t]).length) (p + k) (l ++ [t]) = R := by rw [← HGO.out, hf, scan_some hgr, show 4097 - (l ++ [t]).length = 4096 - l.length by first | (simp; done) | (simp; omega)]
            have HGR := Lib.hid hgr
            have HRR := Lib.hid hR
            clear hgr hR HGO
            go_wp2_with (first
    | ((with_reducible refine' Wl.out ?_; apply wl_box (ty := 44) (y := (.tmp 0)) hS); (· (first | (go_simp; done) | (go_simp; with_reducible rfl))); (· exact rfl); clear hS; intro w4 b4 hS)
    | ((with_reducible refine' Wl.out ?_; apply wl_alloc (ty := 70) (dst := some 9) hS (.agg #[.int .i64 0, .int .i64 0, .int .i64 0, .int .i64 0, .int .i64 0]) [.int .i64 0, .int .i64 0, .int .i64 0, .int .i64 0, .int .i64 0]); (· kernel_rfl); (· rfl); clear hS; intro w9 b9 hS)
    | ((with_reducible refine' Wl.out ?_; apply wl_alloc (ty := 70) (dst := some 11) hS (.agg #[.int .i64 0, .int .i64 0, .int .i64 0, .int .i64 0, .int .i64 0]) [.int .i64 0, .int .i64 0, .int .i64 0, .int .i64 0, .int .i64 0]); (· kernel_rfl); (· rfl); clear hS; intro w11 b11 hS)
    | ((with_reducible refine' Wl.out ?_; apply wl_load hS); (· (first | exact Try.underlying2 | exact Try.underlying3)); (· exact rfl); (· exact rfl); (· (first | (apply Find.box; (· (repeat constructor)); rfl) | exact Find.mem (by assumption) | (apply Find.row; (· (repeat constructor)); assumption))))
    | ((with_reducible refine' Wl.out ?_; apply wg_load hS); (· (first | exact Try.underlying2 | exact Try.underlying3)); (· exact rfl); (· (first | rfl | (go_simp; done))); (· exact rfl); (· (first | (apply Find.box; (· (repeat constructor)); rfl) | exact Find.mem (by assumption) | (apply Find.row; (· (repeat constructor)); assumption))))
    | ((with_reducible refine' Wl.out ?_; apply wl_loads hS); (· (first | exact rowT44 | exact rowT70)); (· exact rfl); (· (first | (apply Finds.box; (· (repeat constructor)); (· (repeat constructor)); done) | (refine Finds.mem2 (by assumption) ?_; first | rfl | assumption | (simp; done)) | (apply Finds.row; (· (repeat constructor)); (· assumption); (· rfl)))))
    | ((with_reducible refine' Wl.out ?_; apply wg_loads hS); (· (first | exact rowT44 | exact rowT70)); (· (first | rfl | (go_simp; done))); (· exact rfl); (· (first | (apply Finds.box; (· (repeat constructor)); (· (repeat constructor)); done) | (refine Finds.mem2 (by assumption) ?_; first | rfl | assumption | (simp; done)) | (apply Finds.row; (· (repeat constructor)); (· assumption); (· rfl)))))
    | ((with_reducible refine' Wl.out ?_); (with_reducible refine' wg_case ?_ ?_) <;> (intro hgW; (try (have hg2 := hgW; simp [go_sem] at hg2)); (first | (exfalso; assumption) | ((with_reducible refine' Wl.out ?_; apply wl_unwanted); (· exact hgW)) | ((with_reducible refine' Wl.out ?_; apply wg_load hS); (· (first | exact Try.underlying2 | exact Try.underlying3)); (· exact rfl); (· exact hgW); (· exact rfl); (· (first | (apply Find.box; (· (repeat constructor)); rfl) | exact Find.mem (by assumption) | (apply Find.row; (· (repeat constructor)); assumption)))) | ((with_reducible refine' Wl.out ?_; apply wg_loads hS); (· (first | exact rowT44 | exact rowT70)); (· exact hgW); (· exact rfl); (· (first | (apply Finds.box; (· (repeat constructor)); (· (repeat constructor)); done) | (refine Finds.mem2 (by assumption) ?_; first | rfl | assumption | (simp; done)) | (apply Finds.row; (· (repeat constructor)); (· assumption); (· rfl)))))); clear hgW))
    | ((with_reducible refine' Wl.out ?_; apply wl_store hS); (· (first | exact rowT2 | exact rowT3)); (· exact rfl); (· (first | (go_simp; done) | (go_simp; with_reducible rfl))); (· (first | rfl | assumption | (simp [Value.oneCell']; done))); (· (repeat constructor)); (· (repeat constructor)); (· (repeat constructor)); clear hS; intro ws hS)
    | ((with_reducible refine' Wl.out ?_; apply wl_storeR hS); (· (first | exact rowT2 | exact rowT3)); (· exact rfl); (· (first | (go_simp; done) | (go_simp; with_reducible rfl))); (· (first | rfl | assumption | (simp [Value.oneCell']; done))); (· (repeat constructor)); (· (first | assumption | omega | (simp; omega))); clear hS; intro ws hS)
    | ((with_reducible refine' Wl.out ?_; apply wl_stores hS); (· (first | exact rowT70)); (· exact rfl); (· exact rfl); (· exact rfl); (· (first | assumption | (simp [Value.oneCell']; done))); (· (repeat constructor)); (· (repeat constructor)); (· (repeat constructor)); clear hS; intro ws hS)
              | (go_at_call 91; refine (jgroup_c _ _ hS.inw _ _ A0.out _ _ _ _ _ HGK.out).mono ?_; rw [HGR.out]; rintro e' w50 ⟨_, m50, rfl, ⟨q50, c50, rfl, RG⟩, hk⟩; replace hS := hS.call hk; replace A0 := Lib.hid (Lay.mono _ hk.le A0.out); replace HC := Lib.hid (CellsOf.mono hk.le HC.out); clear hk)
            | (go_at_call 73; refine (bclone_v _ _ hS.inw _ _ RG.out).mono ?_; rintro e' w58 ⟨_, m58, rfl, R58', hk⟩; have R58 := Lib.hid R58'; obtain ⟨p58, c58, rfl, _⟩ := Lay.list_open R58'; clear R58'; replace hS := hS.call hk; replace A0 := Lib.hid (Lay.mono _ hk.le A0.out); replace HC := Lib.hid (CellsOf.mono hk.le HC.out); clear hk)
              | ((with_reducible refine' Wl.out ?_; apply wl_litO el_bytes hS); (· (first | (go_simp; done) | (go_simp; with_reducible rfl))); (· rfl); clear hS; intro w59 b59 hS)
              | ((with_reducible refine' Wl.out ?_; apply wl_appendB el_bytes hS (by decide)); (· exact rfl); (· (repeat constructor)); (· exact rfl); (· (repeat constructor)); (· rfl); (· simp [Value.oneCell']); (· omega); clear hS; intro w60 q60 c60 hS))
            have hlen : l.length + 1 = (l ++ [t]).length := by simp
            have hlen2 : (l.length : Int) + 1 = ((l ++ [t]).length : Int) := by simp
            rw [hlen, hlen2] at hS
            rw [hlen]
            have HC2 := Lib.hid (HC.out.snoc R58.out)
            dsimp only [Act.put]
            go_roundw
            case rel => exact ⟨p + k, l ++ [t], _, q60, c60, _, rfl, ⟨by omega, by omega, by simp; omega⟩, HRR, A0, HC2, hS.forget (x := .box b59 _) (by (repeat constructor))⟩
            case measure => simp [lenOf]; omega
      · have SE : Hid (scanE d b s g = 11) := by show _ = _; unfold scanE; rw [hth, hdd]; rfl
        have RE : Hid (readE d b = 11) := by
          show _ = _
          have ha : aliveE d = 11 := by unfold aliveE; rw [if_pos hok.1, hdd]; rfl
          unfold readE
          rw [if_pos (by rw [ha]; decide), ha]
        rw [hdd] at A0
        clear hth hok
        go_enter Try.func56, Try.ntmps56
        go_wp2_with (first
    | ((with_reducible refine' Wl.out ?_; apply wl_box (ty := 44) (y := (.tmp 0)) hS); (· (first | (go_simp; done) | (go_simp; with_reducible rfl))); (· exact rfl); clear hS; intro w4 b4 hS)
    | ((with_reducible refine' Wl.out ?_; apply wl_alloc (ty := 70) (dst := some 9) hS (.agg #[.int .i64 0, .int .i64 0, .int .i64 0, .int .i64 0, .int .i64 0]) [.int .i64 0, .int .i64 0, .int .i64 0, .int .i64 0, .int .i64 0]); (· kernel_rfl); (· rfl); clear hS; intro w9 b9 hS)
    | ((with_reducible refine' Wl.out ?_; apply wl_alloc (ty := 70) (dst := some 11) hS (.agg #[.int .i64 0, .int .i64 0, .int .i64 0, .int .i64 0, .int .i64 0]) [.int .i64 0, .int .i64 0, .int .i64 0, .int .i64 0, .int .i64 0]); (· kernel_rfl); (· rfl); clear hS; intro w11 b11 hS)
    | ((with_reducible refine' Wl.out ?_; apply wl_load hS); (· (first | exact Try.underlying2 | exact Try.underlying3)); (· exact rfl); (· exact rfl); (· (first | (apply Find.box; (· (repeat constructor)); rfl) | exact Find.mem (by assumption) | (apply Find.row; (· (repeat constructor)); assumption))))
    | ((with_reducible refine' Wl.out ?_; apply wg_load hS); (· (first | exact Try.underlying2 | exact Try.underlying3)); (· exact rfl); (· (first | rfl | (go_simp; done))); (· exact rfl); (· (first | (apply Find.box; (· (repeat constructor)); rfl) | exact Find.mem (by assumption) | (apply Find.row; (· (repeat constructor)); assumption))))
    | ((with_reducible refine' Wl.out ?_; apply wl_loads hS); (· (first | exact rowT44 | exact rowT70)); (· exact rfl); (· (first | (apply Finds.box; (· (repeat constructor)); (· (repeat constructor)); done) | (refine Finds.mem2 (by assumption) ?_; first | rfl | assumption | (simp; done)) | (apply Finds.row; (· (repeat constructor)); (· assumption); (· rfl)))))
    | ((with_reducible refine' Wl.out ?_; apply wg_loads hS); (· (first | exact rowT44 | exact rowT70)); (· (first | rfl | (go_simp; done))); (· exact rfl); (· (first | (apply Finds.box; (· (repeat constructor)); (· (repeat constructor)); done) | (refine Finds.mem2 (by assumption) ?_; first | rfl | assumption | (simp; done)) | (apply Finds.row; (· (repeat constructor)); (· assumption); (· rfl)))))
    | ((with_reducible refine' Wl.out ?_); (with_reducible refine' wg_case ?_ ?_) <;> (intro hgW; (try (have hg2 := hgW; simp [go_sem] at hg2)); (first | (exfalso; assumption) | ((with_reducible refine' Wl.out ?_; apply wl_unwanted); (· exact hgW)) | ((with_reducible refine' Wl.out ?_; apply wg_load hS); (· (first | exact Try.underlying2 | exact Try.underlying3)); (· exact rfl); (· exact hgW); (· exact rfl); (· (first | (apply Find.box; (· (repeat constructor)); rfl) | exact Find.mem (by assumption) | (apply Find.row; (· (repeat constructor)); assumption)))) | ((with_reducible refine' Wl.out ?_; apply wg_loads hS); (· (first | exact rowT44 | exact rowT70)); (· exact hgW); (· exact rfl); (· (first | (apply Finds.box; (· (repeat constructor)); (· (repeat constructor)); done) | (refine Finds.mem2 (by assumption) ?_; first | rfl | assumption | (simp; done)) | (apply Finds.row; (· (repeat constructor)); (· assumption); (· rfl)))))); clear hgW))
    | ((with_reducible refine' Wl.out ?_; apply wl_store hS); (· (first | exact rowT2 | exact rowT3)); (· exact rfl); (· (first | (go_simp; done) | (go_simp; with_reducible rfl))); (· (first | rfl | assumption | (simp [Value.oneCell']; done))); (· (repeat constructor)); (· (repeat constructor)); (· (repeat constructor)); clear hS; intro ws hS)
    | ((with_reducible refine' Wl.out ?_; apply wl_storeR hS); (· (first | exact rowT2 | exact rowT3)); (· exact rfl); (· (first | (go_simp; done) | (go_simp; with_reducible rfl))); (· (first | rfl | assumption | (simp [Value.oneCell']; done))); (· (repeat constructor)); (· (first | assumption | omega | (simp; omega))); clear hS; intro ws hS)
    | ((with_reducible refine' Wl.out ?_; apply wl_stores hS); (· (first | exact rowT70)); (· exact rfl); (· exact rfl); (· exact rfl); (· (first | assumption | (simp [Value.oneCell']; done))); (· (repeat constructor)); (· (repeat constructor)); (· (repeat constructor)); clear hS; intro ws hS)
    | (go_at_call 60; (fail_if_success (clear Mk22)); refine (letLE (jopen_c _ _ hS.inw _ _ _)).mono ?_; rintro e' w22 ⟨_, m22, rfl, ⟨G22, E22, HG22, HE22, rfl⟩, hk⟩; replace hS := hS.call hk; (try replace A0 := Lib.hid (Lay.mono _ hk.le A0.out)); (try replace R37 := Lib.hid (Lay.mono _ hk.le R37.out)); (try replace HC := Lib.hid (CellsOf.mono hk.le HC.out)); (try replace HC2 := Lib.hid (CellsOf.mono hk.le HC2.out)); clear hk; replace HE22 := Lib.hid (HE22.out.trans LE.out); obtain rfl := HE22.out; replace HG22 := Lib.hid (HG22.out.trans LO.out); obtain rfl := HG22.out; have Mk22 := True.intro)
    | (go_at_call 87; (fail_if_success (clear Mk30)); refine (letB (there_c _ _ hS.inw _ _ (by first | exact A0.out | exact R37.out | exact dkL_dry A0.out | exact Lay.nil_rd _ _) _ _ _ _ _)).mono ?_; rintro e' w30 ⟨_, m30, rfl, ⟨B30, HB30, rfl⟩, hk⟩; replace hS := hS.call hk; (try replace A0 := Lib.hid (Lay.mono _ hk.le A0.out)); (try replace R37 := Lib.hid (Lay.mono _ hk.le R37.out)); (try replace HC := Lib.hid (CellsOf.mono hk.le HC.out)); (try replace HC2 := Lib.hid (CellsOf.mono hk.le HC2.out)); clear hk; replace HB30 := Lib.hid (HB30.out.trans TB.out); obtain rfl := HB30.out; have Mk30 := True.intro)
    | (go_at_call 39; (fail_if_success (clear Mk37)); refine (letBE (read_c _ _ hS.inw _ _ (by first | exact A0.out | exact R37.out | exact dkL_dry A0.out | exact Lay.nil_rd _ _) _)).mono ?_; rintro e' w37 ⟨_, m37, rfl, ⟨p37, c37, Y37, E37, HY37, HE37, rfl, R37, C37⟩, hk⟩; replace hS := hS.call hk; (try replace A0 := Lib.hid (Lay.mono _ hk.le A0.out)); (try replace R37 := Lib.hid (Lay.mono _ hk.le R37.out)); (try replace HC := Lib.hid (CellsOf.mono hk.le HC.out)); (try replace HC2 := Lib.hid (CellsOf.mono hk.le HC2.out)); clear hk; replace HE37 := Lib.hid (HE37.out.trans RE.out); obtain rfl := HE37.out; have Mk37 := True.intro))
        refine ret_tct (k := 5) rfl rfl hS (by (repeat constructor)) rfl lgRow rfl ?_
        rw [(scan_no (d := d) (b := b) (s := s) (g := g) (by rw [SE.out]; decide)).1, (scan_no (d := d) (b := b) (s := s) (g := g) (by rw [SE.out]; decide)).2, SE.out]
        exact ⟨_, _, rfl, ⟨_, rfl, Lay.nil_rd _ _⟩, hS.done⟩

  · have LE : Hid (lcheckE ⟨b, s, g, 0, 0⟩ = 1) := if_neg hg
    have LO : Hid (lopenG b s g = lg0) := lopen_no hg
    have SE : Hid (scanE d b s g = 1) := by
      show _ = _
      unfold scanE
      rw [show thereB d ⟨b, s, g, 0, 0⟩ = false from decide_eq_false fun hh => hg hh.2.1]; rfl
    have TB : Hid (thereB d ⟨b, s, g, 0, 0⟩ = false) := decide_eq_false fun hh => hg hh.2.1
    clear hg
    go_enter Try.func56, Try.ntmps56
    go_wp2_with (first
    | ((with_reducible refine' Wl.out ?_; apply wl_box (ty := 44) (y := (.tmp 0)) hS); (· (first | (go_simp; done) | (go_simp; with_reducible rfl))); (· exact rfl); clear hS; intro w4 b4 hS)
    | ((with_reducible refine' Wl.out ?_; apply wl_alloc (ty := 70) (dst := some 9) hS (.agg #[.int .i64 0, .int .i64 0, .int .i64 0, .int .i64 0, .int .i64 0]) [.int .i64 0, .int .i64 0, .int .i64 0, .int .i64 0, .int .i64 0]); (· kernel_rfl); (· rfl); clear hS; intro w9 b9 hS)
    | ((with_reducible refine' Wl.out ?_; apply wl_alloc (ty := 70) (dst := some 11) hS (.agg #[.int .i64 0, .int .i64 0, .int .i64 0, .int .i64 0, .int .i64 0]) [.int .i64 0, .int .i64 0, .int .i64 0, .int .i64 0, .int .i64 0]); (· kernel_rfl); (· rfl); clear hS; intro w11 b11 hS)
    | ((with_reducible refine' Wl.out ?_; apply wl_load hS); (· (first | exact Try.underlying2 | exact Try.underlying3)); (· exact rfl); (· exact rfl); (· (first | (apply Find.box; (· (repeat constructor)); rfl) | exact Find.mem (by assumption) | (apply Find.row; (· (repeat constructor)); assumption))))
    | ((with_reducible refine' Wl.out ?_; apply wg_load hS); (· (first | exact Try.underlying2 | exact Try.underlying3)); (· exact rfl); (· (first | rfl | (go_simp; done))); (· exact rfl); (· (first | (apply Find.box; (· (repeat constructor)); rfl) | exact Find.mem (by assumption) | (apply Find.row; (· (repeat constructor)); assumption))))
    | ((with_reducible refine' Wl.out ?_; apply wl_loads hS); (· (first | exact rowT44 | exact rowT70)); (· exact rfl); (· (first | (apply Finds.box; (· (repeat constructor)); (· (repeat constructor)); done) | (refine Finds.mem2 (by assumption) ?_; first | rfl | assumption | (simp; done)) | (apply Finds.row; (· (repeat constructor)); (· assumption); (· rfl)))))
    | ((with_reducible refine' Wl.out ?_; apply wg_loads hS); (· (first | exact rowT44 | exact rowT70)); (· (first | rfl | (go_simp; done))); (· exact rfl); (· (first | (apply Finds.box; (· (repeat constructor)); (· (repeat constructor)); done) | (refine Finds.mem2 (by assumption) ?_; first | rfl | assumption | (simp; done)) | (apply Finds.row; (· (repeat constructor)); (· assumption); (· rfl)))))
    | ((with_reducible refine' Wl.out ?_); (with_reducible refine' wg_case ?_ ?_) <;> (intro hgW; (try (have hg2 := hgW; simp [go_sem] at hg2)); (first | (exfalso; assumption) | ((with_reducible refine' Wl.out ?_; apply wl_unwanted); (· exact hgW)) | ((with_reducible refine' Wl.out ?_; apply wg_load hS); (· (first | exact Try.underlying2 | exact Try.underlying3)); (· exact rfl); (· exact hgW); (· exact rfl); (· (first | (apply Find.box; (· (repeat constructor)); rfl) | exact Find.mem (by assumption) | (apply Find.row; (· (repeat constructor)); assumption)))) | ((with_reducible refine' Wl.out ?_; apply wg_loads hS); (· (first | exact rowT44 | exact rowT70)); (· exact hgW); (· exact rfl); (· (first | (apply Finds.box; (· (repeat constructor)); (· (repeat constructor)); done) | (refine Finds.mem2 (by assumption) ?_; first | rfl | assumption | (simp; done)) | (apply Finds.row; (· (repeat constructor)); (· assumption); (· rfl)))))); clear hgW))
    | ((with_reducible refine' Wl.out ?_; apply wl_store hS); (· (first | exact rowT2 | exact rowT3)); (· exact rfl); (· (first | (go_simp; done) | (go_simp; with_reducible rfl))); (· (first | rfl | assumption | (simp [Value.oneCell']; done))); (· (repeat constructor)); (· (repeat constructor)); (· (repeat constructor)); clear hS; intro ws hS)
    | ((with_reducible refine' Wl.out ?_; apply wl_storeR hS); (· (first | exact rowT2 | exact rowT3)); (· exact rfl); (· (first | (go_simp; done) | (go_simp; with_reducible rfl))); (· (first | rfl | assumption | (simp [Value.oneCell']; done))); (· (repeat constructor)); (· (first | assumption | omega | (simp; omega))); clear hS; intro ws hS)
    | ((with_reducible refine' Wl.out ?_; apply wl_stores hS); (· (first | exact rowT70)); (· exact rfl); (· exact rfl); (· exact rfl); (· (first | assumption | (simp [Value.oneCell']; done))); (· (repeat constructor)); (· (repeat constructor)); (· (repeat constructor)); clear hS; intro ws hS)
    | (go_at_call 60; (fail_if_success (clear Mk22)); refine (letLE (jopen_c _ _ hS.inw _ _ _)).mono ?_; rintro e' w22 ⟨_, m22, rfl, ⟨G22, E22, HG22, HE22, rfl⟩, hk⟩; replace hS := hS.call hk; (try replace A0 := Lib.hid (Lay.mono _ hk.le A0.out)); (try replace R37 := Lib.hid (Lay.mono _ hk.le R37.out)); (try replace HC := Lib.hid (CellsOf.mono hk.le HC.out)); (try replace HC2 := Lib.hid (CellsOf.mono hk.le HC2.out)); clear hk; replace HE22 := Lib.hid (HE22.out.trans LE.out); obtain rfl := HE22.out; replace HG22 := Lib.hid (HG22.out.trans LO.out); obtain rfl := HG22.out; have Mk22 := True.intro)
    | (go_at_call 87; (fail_if_success (clear Mk30)); refine (letB (there_c _ _ hS.inw _ _ (by first | exact A0.out | exact R37.out | exact dkL_dry A0.out | exact Lay.nil_rd _ _) _ _ _ _ _)).mono ?_; rintro e' w30 ⟨_, m30, rfl, ⟨B30, HB30, rfl⟩, hk⟩; replace hS := hS.call hk; (try replace A0 := Lib.hid (Lay.mono _ hk.le A0.out)); (try replace R37 := Lib.hid (Lay.mono _ hk.le R37.out)); (try replace HC := Lib.hid (CellsOf.mono hk.le HC.out)); (try replace HC2 := Lib.hid (CellsOf.mono hk.le HC2.out)); clear hk; replace HB30 := Lib.hid (HB30.out.trans TB.out); obtain rfl := HB30.out; have Mk30 := True.intro)
    | (go_at_call 39; (fail_if_success (clear Mk37)); refine (letBE (read_c _ _ hS.inw _ _ (by first | exact A0.out | exact R37.out | exact dkL_dry A0.out | exact Lay.nil_rd _ _) _)).mono ?_; rintro e' w37 ⟨_, m37, rfl, ⟨p37, c37, Y37, E37, HY37, HE37, rfl, R37, C37⟩, hk⟩; replace hS := hS.call hk; (try replace A0 := Lib.hid (Lay.mono _ hk.le A0.out)); (try replace R37 := Lib.hid (Lay.mono _ hk.le R37.out)); (try replace HC := Lib.hid (CellsOf.mono hk.le HC.out)); (try replace HC2 := Lib.hid (CellsOf.mono hk.le HC2.out)); clear hk; replace HE37 := Lib.hid (HE37.out.trans RE.out); obtain rfl := HE37.out; have Mk37 := True.intro))
    refine ret_tct (k := 5) rfl rfl hS (by (repeat constructor)) rfl lgRow rfl ?_
    rw [(scan_no (d := d) (b := b) (s := s) (g := g) (by rw [SE.out]; decide)).1, (scan_no (d := d) (b := b) (s := s) (g := g) (by rw [SE.out]; decide)).2, SE.out]
    exact ⟨_, _, rfl, ⟨_, rfl, Lay.nil_rd _ _⟩, hS.done⟩

end Go.Proofs.Ytnmgiiaejpaeeaa
/- Texts compared; the chapter's example; letters of both Appends and Scans. -/
namespace Go.Proofs.Ytnmgiiaejpaeeaa
set_option linter.unusedVariables false
set_option linter.unusedSimpArgs false
open Go.RowKit Go.Shelf
theorem conv_row {w : World} {p : Option Addr} {c : Nat} {xs : List Int} (h : Rd .u8 w p xs) : (convert 22 9 (.slice p xs.length c)).run Try.prog w = .ok (.string (strOfNums xs)) w := by
  have := conv_rd (c := c) h 0
  simpa only [World.drewN_zero] using this
theorem yield_conv {bs : List (Nat × List Value)} {a : Act} {o : Oper} {m : Mem} {x : Operand} {p : Option Addr} {c : Nat} {xs : List Int} (ho : o.op = .convert 22 9 x) (hx : a.eval x = .slice p xs.length c) (hr : bytesL.rd m [.slice p xs.length c] xs) :
    ∀ w, Sx m bs w → (execOp a.eval o).run Try.prog w = .ok (.value (.string (strOfNums xs))) w := fun w hw => by
  obtain ⟨_, _, e, _, _, _, h4⟩ := Lay.list_open hr
  cases e
  unfold execOp
  simp only [ho, hx, Sem.run_bind, conv_row (c := c) (h4.rdInt hw.1), Result.andThen_ok, Sem.run_pure]
theorem take_succ_eq {α : Type} {a b : List α} {k : Nat} (h : a.take k = b.take k) (ha : k < a.length) (hb : k < b.length) : (a.take (k + 1) = b.take (k + 1)) ↔ a[k] = b[k] := by
  rw [List.take_succ_eq_append_getElem ha, List.take_succ_eq_append_getElem hb, h]
  constructor
  · intro e; have := List.append_cancel_left e; simpa only [List.cons.injEq, and_true] using this
  · intro e; rw [e]
set_option maxRecDepth 100000 in
set_option maxHeartbeats 4000000 in
theorem sameT_c (m : Mem) (w : World) (hm : m.In w) (va vb : Value) (a b : List (List Int)) (ha : textsL.rd m [va] a) (hb : textsL.rd m [vb] b) :
    Calls Try.prog 62 #[va, vb] w (Ret w m fun v _ => v = .bool (decide (a = b))) := by
  obtain ⟨pa, ca, rfl, a1, a2, a3, a4⟩ := Lay.list_open ha
  obtain ⟨pb, cb, rfl, b1, b2, b3, b4⟩ := Lay.list_open hb
  have HA := Lib.hid a4
  have HB := Lib.hid b4
  have hS := St.start hm
  simp only [maxLen] at a2 b2
  clear ha hb a3 a4 b3 b4
  by_cases hl : a.length = b.length
  · rw [← hl] at b1 ⊢
    go_enter Try.func62, Try.ntmps62
    go_wp2_with fail
    go_loopw [13] (fun i wr => ∃ k : Nat, k ≤ a.length ∧ i = .int .i64 k ∧ Hid (a.take k = b.take k) ∧ St [] w m wr [] m) (fun i _ => a.length - (intOf i).toNat)
    case atStart => exact ⟨0, Nat.zero_le _, rfl, by simp [Hid], hS⟩
    case round =>
      clear hS
      obtain ⟨k, hk, rfl, hall, hS⟩ := hrel
      by_cases hlt : k < a.length
      · obtain ⟨g, o, cs, rfl, hx, hg⟩ := HA.out.get k hlt
        obtain ⟨q, c, rfl, x1, x2, x3, x4⟩ := (show ∃ q c, cs = [.slice q a[k].length c] ∧ _ from hx)
        obtain ⟨g', o', cs', rfl, hy, hg'⟩ := HB.out.get k (by omega)
        obtain ⟨q', c', rfl, y1, y2, y3, y4⟩ := (show ∃ q c, cs' = [.slice q b[k].length c] ∧ _ from hy)
        have ha' : m ⟨g, o + k, none⟩ = some (.slice q a[k].length c) := by have := hg 0 _ rfl; rw [show bytesL.n = 1 from rfl, Nat.mul_one] at this; exact this
        have hb' : m ⟨g', o' + k, none⟩ = some (.slice q' b[k].length c') := by have := hg' 0 _ rfl; rw [show bytesL.n = 1 from rfl, Nat.mul_one] at this; exact this
        have HX := Lib.hid (show bytesL.rd m [.slice q a[k].length c] a[k] from hx)
        have HY := Lib.hid (show bytesL.rd m [.slice q' b[k].length c'] b[k] from hy)
        have st := strs_beq (bytes_isB HX.out) (bytes_isB HY.out)
        have HN := Lib.hid (take_succ_eq hall.out hlt (by omega))
        have HE : Hid (a[k] ≠ b[k] → a ≠ b) := Lib.hid fun h e => h (by subst e; rfl)
        generalize a[k] = xa at *
        generalize b[k] = xb at *
        obtain ⟨B, hB⟩ : ∃ B, B = decide (xa = xb) := ⟨_, rfl⟩
        rw [← hB] at st
        have HBB := Lib.hid hB
        clear hg hg' hx hy hall x1 x2 x3 x4 y1 y2 y3 y4 hB
        go_upto_region 6 with fail
        replace hS := hS.drew
        refine startL (S := Sx _ []) (by kernel_rfl) hS.sx0 (fun _ _ _ _ => trivial) (fun hHeld => ?_)
        focus (refine takeN 0 (v := ?_) rfl (by kernel_rfl) ?_ ?_; rotate_left; focus (intro w hSw; clear hSw; go_simp; try with_reducible rfl))
        try simp only [Act.put, nz1, nz2, nz3]
        focus (refine takeN 1 (v := ?_) rfl (by kernel_rfl) ?_ ?_; rotate_left; focus (intro w hSw; clear hSw; go_simp; try with_reducible rfl))
        try simp only [Act.put, nz1, nz2, nz3]
        focus (refine takeN 2 (v := ?_) rfl (by kernel_rfl) ?_ ?_; rotate_left; focus (intro w hSw; clear hSw; go_simp; try with_reducible rfl))
        try simp only [Act.put, nz1, nz2, nz3]
        refine takeN 3 rfl (by kernel_rfl) (yield_load rfl Try.underlying22 rfl rfl (by (first | (apply FindX.box; (· (repeat constructor)); rfl) | exact FindX.mem (by assumption)))) ?_
        try simp only [Act.put, nz1, nz2, nz3]
        refine takeN 4 rfl (by kernel_rfl) (yield_conv rfl rfl HX.out) ?_
        try simp only [Act.put, nz1, nz2, nz3]
        focus (refine takeN 5 (v := ?_) rfl (by kernel_rfl) ?_ ?_; rotate_left; focus (intro w hSw; clear hSw; go_simp; try with_reducible rfl))
        try simp only [Act.put, nz1, nz2, nz3]
        focus (refine takeN 6 (v := ?_) rfl (by kernel_rfl) ?_ ?_; rotate_left; focus (intro w hSw; clear hSw; go_simp; try with_reducible rfl))
        try simp only [Act.put, nz1, nz2, nz3]
        focus (refine takeN 7 (v := ?_) rfl (by kernel_rfl) ?_ ?_; rotate_left; focus (intro w hSw; clear hSw; go_simp; try with_reducible rfl))
        try simp only [Act.put, nz1, nz2, nz3]
        refine takeN 8 rfl (by kernel_rfl) (yield_load rfl Try.underlying22 rfl rfl (by (first | (apply FindX.box; (· (repeat constructor)); rfl) | exact FindX.mem (by assumption)))) ?_
        try simp only [Act.put, nz1, nz2, nz3]
        refine takeN 9 rfl (by kernel_rfl) (yield_conv rfl rfl HY.out) ?_
        try simp only [Act.put, nz1, nz2, nz3]
        focus (refine takeN 10 (v := ?_) rfl (by kernel_rfl) ?_ ?_; rotate_left; focus (intro w hSw; clear hSw; go_simp; try with_reducible rfl))
        try simp only [Act.put, nz1, nz2, nz3]
        refine wpAnyH_done (by kernel_rfl) ?_ _
        refine NoPanic.normal ?_
        cases B with
        | false =>
          have HF := Lib.hid (decide_eq_false (HE.out (of_decide_eq_false HBB.out.symm)))
          go_wp2_with fail
          go_ret
          exact ⟨_, m, rfl, by rw [HF.out]; rfl, hS.done⟩
        | true =>
          have HT := Lib.hid (HN.out.2 (of_decide_eq_true HBB.out.symm))
          go_wp2_with fail
          go_roundw
          case rel => exact ⟨k + 1, hlt, by go_num, HT, hS⟩
          case measure => simp [intOf]; omega
      · obtain rfl : k = a.length := by omega
        have he : a = b := by have := hall.out; rw [List.take_length, hl, List.take_length] at this; exact this
        have HE := Lib.hid he
        clear he
        go_wp2_with fail
        go_ret
        exact ⟨_, m, rfl, by rw [decide_eq_true HE.out]; rfl, hS.done⟩
  · have hd : decide (a = b) = false := decide_eq_false fun e => hl (by rw [e])
    have HD := Lib.hid hd
    have hl2 : ((a.length : Int) != (b.length : Int)) = true := by simp; omega
    clear hd
    go_enter Try.func62, Try.ntmps62
    go_wp2_with fail
    all_goals
      go_ret
      exact ⟨_, m, rfl, by rw [HD.out]; rfl, hS.done⟩
/-! ### Letters -/
section
variable {P : Program} {f : FuncId} {args : Array Value} {w : World} {m : Mem}
theorem letDLE {R : Dk × Lg × Int} (h : Calls P f args w (RetDLE w m R)) : Calls P f args w (Ret w m fun v m' => ∃ p c q a d' g' e', Hid ((d', g', e') = R) ∧ v = .tuple #[.agg ([.slice p d'.dry.length c, .slice q d'.wet.length a, .int .i64 d'.fuse, .bool d'.dead] : List Value).toArray, .agg ([.int .i64 g'.base, .int .i64 g'.size, .int .i64 g'.gen, .int .i64 g'.pos, .int .i64 g'.n] : List Value).toArray, .int .i64 e'] ∧ Hid (dkL.rd m' [.slice p d'.dry.length c, .slice q d'.wet.length a, .int .i64 d'.fuse, .bool d'.dead] d')) :=
  h.mono fun en w' ⟨v, m', h1, ⟨cs, h2, h3⟩, h4⟩ => by
    obtain ⟨p, c, q, a, rfl, h5⟩ := dkL_cells h3
    exact ⟨v, m', h1, ⟨p, c, q, a, R.1, R.2.1, R.2.2, rfl, h2, h5⟩, h4⟩
theorem letTLE {l : List (List Int)} {g : Lg} {e : Int} (h : Calls P f args w (RetTLE w m l g e)) : Calls P f args w (Ret w m fun v m' => ∃ p c l' g' e', Hid (l' = l) ∧ Hid (g' = g) ∧ Hid (e' = e) ∧ v = .tuple #[.slice p l'.length c, .agg ([.int .i64 g'.base, .int .i64 g'.size, .int .i64 g'.gen, .int .i64 g'.pos, .int .i64 g'.n] : List Value).toArray, .int .i64 e'] ∧ Hid (textsL.rd m' [.slice p l'.length c] l') ∧ Hid (l'.length ≤ c ∧ c ≤ maxLen)) :=
  h.mono fun en w' ⟨v, m', h1, ⟨vl, h2, h3⟩, h4⟩ => by
    have hh := h3
    obtain ⟨p, c, rfl, a1, a2, _⟩ := Lay.list_open h3
    exact ⟨v, m', h1, ⟨p, c, l, g, e, rfl, rfl, rfl, h2, hh, a1, a2⟩, h4⟩
end
theorem app_ex : (appR (newD 4) ⟨1, 3, 5, 0, 0⟩ [97, 98, 99]).2.1.pos = 1 ∧ (appR (newD 4) ⟨1, 3, 5, 0, 0⟩ [97, 98, 99]).2.2 = 0 := by decide +kernel
theorem scan_ex : scanT (appR (newD 4) ⟨1, 3, 5, 0, 0⟩ [97, 98, 99]).1 1 3 5 = [[97, 98, 99]] ∧ scanE (appR (newD 4) ⟨1, 3, 5, 0, 0⟩ [97, 98, 99]).1 1 3 5 = 0 := by decide +kernel
end Go.Proofs.Ytnmgiiaejpaeeaa
/- The chapter's example of layer 20. -/
namespace Go.Proofs.Ytnmgiiaejpaeeaa
set_option linter.unusedVariables false
set_option linter.unusedSimpArgs false
open Go.RowKit Go.Shelf
theorem cell_freeze (w : World) (a x : Addr) (n : Nat) : (w.freeze a n).cell? x = w.cell? x := by
  unfold World.freeze
  split
  · rfl
  · unfold World.cell?
    simp only [Array.getElem?_modify]
    by_cases h : a.block = x.block
    · rw [if_pos h]
      cases w.heap[x.block]? with
      | none => rfl
      | some o => cases o <;> rfl
    · rw [if_neg h]
theorem grownBy_freeze (w : World) (a : Addr) (n : Nat) : w.grownBy (w.freeze a n) (some a.block) := by
  unfold World.freeze
  split
  · exact ⟨rfl, rfl, rfl, Nat.le_refl _, fun _ _ _ => rfl⟩
  · exact ⟨rfl, rfl, rfl, by simp, fun k hk hn => by
      show (w.heap.modify a.block _)[k]? = _
      rw [Array.getElem?_modify, if_neg (fun e => hn (by rw [e]))]⟩
section
variable {ops : Array Oper} {P : Program} {X : List Nat} {w0 w : World} {m0 m : Mem} {es : List Ent} {o : Oper} {a : Act} {K : Act → World → Prop} {Q : Exit → Act → World → Prop}
variable {rest : List Oper} {dst : Option Tmp} {rt : TypeId} {pos : String} {af : Array Edge}
theorem St.freeze (hS : St X w0 m0 w es m) (x : Addr) (n : Nat) (hb : w0.heap.size ≤ x.block ∨ x.block ∈ X) (hn : ∀ y ∈ es, y.blk ≠ some x.block) : St X w0 m0 (w.freeze x n) es m := by
  have hg := grownBy_freeze w x n
  exact ⟨hS.kept.grown hg fun b e => by cases e; exact hb, fun y hy => ⟨(hS.has y hy).1.grown hg (.inr (hn y hy)), (hS.has y hy).2⟩, hS.apart, fun c v hv => ⟨by rw [cell_freeze]; exact (hS.know c v hv).1, (hS.know c v hv).2⟩, hS.le, hS.new⟩
theorem run_conv_same {t e : TypeId} (ht : P.underlying t = some (.slice e)) (he : P.underlying e = some (.int .u8)) {b n c : Nat} {cs : List Value} (hb : BoxIn w b cs) :
    (convert t t (.slice (some ⟨b, 0, none⟩) n c)).run P w = .ok (.slice (some ⟨b, 0, none⟩) n c) (w.freeze ⟨b, cs.length, none⟩ 1) := by
  obtain ⟨u, hb⟩ := hb
  have hsh : w.shape? b = some (u, cs.length) := by unfold World.shape?; rw [hb]; simp
  simp [convert, run_underlying ht, run_underlying he, markStringish, hsh]
/-- A literal of octets that was a text: its block is let be. -/
theorem wl_conv {t e : TypeId} (ht : P.underlying t = some (.slice e)) (he : P.underlying e = some (.int .u8)) {x : Operand} {b n c : Nat} {cs : List Value} (hS : St X w0 m0 w (.box b cs :: es) m) (hx : a.eval x = .slice (some ⟨b, 0, none⟩) n c)
    (h : ∀ w' m', m.Le m' → (∀ j v, cs[j]? = some v → m' ⟨b, j, none⟩ = some v) → St X w0 m0 w' es m' → wpList P ops Q rest (a.put dst (.slice (some ⟨b, 0, none⟩) n c)) w') : Wl P ops Q (⟨dst, .convert t t x, rt, pos, af, none⟩ :: rest) a w := by
  refine ⟨wpList_plain rfl fun K hK => ?_⟩
  obtain ⟨m', h1, h2, h3⟩ := hS.settleBox 0 rfl
  have hk := (hS.has _ (List.mem_cons_self ..)).2 b rfl
  have hap := (List.pairwise_cons.1 hS.apart).1
  have hfr := h1.freeze ⟨b, cs.length, none⟩ 1 hk (fun y hy e => hap y hy b rfl e)
  unfold Oper.wp execOp
  simp only [hx, Sem.run_bind, run_conv_same ht he (hS.box 0 rfl), Result.andThen_ok, Sem.run_pure]
  exact hK _ _ (h _ _ h2 h3 hfr)
end
theorem abc_inK : ∀ x ∈ [97, 98, 99], InK .u8 x := isB_inK (by intro y hy; simp at hy; omega)
theorem bytes_box {m : Mem} {b c : Nat} {xs : List Int} (h : ∀ j v, (xs.map (Value.int .u8))[j]? = some v → m ⟨b, j, none⟩ = some v) (hk : ∀ x ∈ xs, InK .u8 x) (h1 : xs.length ≤ c) (h2 : c ≤ maxLen) (h3 : xs.length ≤ 140737488355328) : bytesL.rd m [.slice (some ⟨b, 0, none⟩) xs.length c] xs :=
  ⟨_, c, rfl, h1, h2, by simpa [Lay.int, kBytes] using h3, rowInt hk fun h0 => ⟨b, 0, rfl, fun i hi => by
    rw [Nat.zero_add]
    exact h i _ (by simp [List.getD, hi])⟩⟩
set_option maxRecDepth 100000 in
set_option maxHeartbeats 4000000 in
theorem live20_c (m : Mem) (w : World) (hm : m.In w) : Calls Try.prog 53 #[] w (Ret w m fun v _ => v = .bool true) := by
  have hS := St.start hm
  go_enter Try.func53, Try.ntmps53
  go_wp2_with (first
    | ((with_reducible refine' Wl.out ?_; apply wl_alloc (ty := 44) (dst := some 1) hS (.agg #[.slice none 0 0, .slice none 0 0, .int .i64 0, .bool false]) [.slice none 0 0, .slice none 0 0, .int .i64 0, .bool false]); (· kernel_rfl); (· rfl); clear hS; intro w1 b1 hS)
    | ((with_reducible refine' Wl.out ?_; apply wl_alloc (ty := 70) (dst := some 3) hS (.agg #[.int .i64 0, .int .i64 0, .int .i64 0, .int .i64 0, .int .i64 0]) [.int .i64 0, .int .i64 0, .int .i64 0, .int .i64 0, .int .i64 0]); (· kernel_rfl); (· rfl); clear hS; intro w3 b3 hS)
    | ((with_reducible refine' Wl.out ?_; apply wl_alloc (ty := 70) (dst := some 9) hS (.agg #[.int .i64 0, .int .i64 0, .int .i64 0, .int .i64 0, .int .i64 0]) [.int .i64 0, .int .i64 0, .int .i64 0, .int .i64 0, .int .i64 0]); (· kernel_rfl); (· rfl); clear hS; intro w9 b9 hS)
    | ((with_reducible refine' Wl.out ?_; apply wl_load hS); (· (first | exact Try.underlying3 | exact Try.underlying22)); (· exact rfl); (· exact rfl); (· (first | (apply Find.box; (· (repeat constructor)); rfl) | exact Find.mem (by assumption) | (apply Find.row; (· (repeat constructor)); assumption))))
    | ((with_reducible refine' Wl.out ?_; apply wg_load hS); (· (first | exact Try.underlying3 | exact Try.underlying22)); (· exact rfl); (· (first | rfl | (go_simp; done))); (· exact rfl); (· (first | (apply Find.box; (· (repeat constructor)); rfl) | exact Find.mem (by assumption) | (apply Find.row; (· (repeat constructor)); assumption))))
    | ((with_reducible refine' Wl.out ?_; apply wl_loads hS); (· (first | exact rowT44 | exact rowT70)); (· exact rfl); (· (first | (apply Finds.box; (· (repeat constructor)); (· (repeat constructor)); done) | (refine Finds.mem2 (by assumption) ?_; first | rfl | assumption | (simp; done)) | (apply Finds.row; (· (repeat constructor)); (· assumption); (· rfl)))))
    | ((with_reducible refine' Wl.out ?_; apply wg_loads hS); (· (first | exact rowT44 | exact rowT70)); (· (first | rfl | (go_simp; done))); (· exact rfl); (· (first | (apply Finds.box; (· (repeat constructor)); (· (repeat constructor)); done) | (refine Finds.mem2 (by assumption) ?_; first | rfl | assumption | (simp; done)) | (apply Finds.row; (· (repeat constructor)); (· assumption); (· rfl)))))
    | ((with_reducible refine' Wl.out ?_); (with_reducible refine' wg_case ?_ ?_) <;> (intro hgW; (try (have hg2 := hgW; simp [go_sem] at hg2)); (first | (exfalso; assumption) | ((with_reducible refine' Wl.out ?_; apply wl_unwanted); (· exact hgW)) | ((with_reducible refine' Wl.out ?_; apply wg_load hS); (· (first | exact Try.underlying3 | exact Try.underlying22)); (· exact rfl); (· exact hgW); (· exact rfl); (· (first | (apply Find.box; (· (repeat constructor)); rfl) | exact Find.mem (by assumption) | (apply Find.row; (· (repeat constructor)); assumption)))) | ((with_reducible refine' Wl.out ?_; apply wg_loads hS); (· (first | exact rowT44 | exact rowT70)); (· exact hgW); (· exact rfl); (· (first | (apply Finds.box; (· (repeat constructor)); (· (repeat constructor)); done) | (refine Finds.mem2 (by assumption) ?_; first | rfl | assumption | (simp; done)) | (apply Finds.row; (· (repeat constructor)); (· assumption); (· rfl)))))); clear hgW))
    | ((with_reducible refine' Wl.out ?_; apply wl_stores hS); (· (first | exact rowT44 | exact rowT70)); (· exact rfl); (· exact rfl); (· exact rfl); (· (first | assumption | (simp [Value.oneCell']; done))); (· (repeat constructor)); (· (repeat constructor)); (· (repeat constructor)); clear hS; intro ws hS)
    | ((with_reducible refine' Wl.out ?_; apply wl_make el_u8 12 hS); (· exact rfl); (· exact rfl); (· rfl); (· rfl); (· decide); (· decide); (· decide); clear hS; intro w20 b20 hS)
    | ((with_reducible refine' Wl.out ?_; apply wl_lit el_u8 hS (cs := [.int .u8 97, .int .u8 98, .int .u8 99])); (· decide); (· decide); (· kernel_rfl); clear hS; intro w27 b27 hS)
    | ((with_reducible refine' Wl.out ?_; apply wl_conv Try.underlying22 Try.underlying5 hS); (· exact rfl); clear hS; intro w28 m28 hk hb28 hS; have RA := Lib.hid (bytes_box (xs := [97, 98, 99]) (c := 3) hb28 abc_inK (by decide) (by decide) (by decide)); replace R12 := Lib.hid (Lay.mono _ hk R12.out); clear hb28 hk)
    | (go_at_call 54; refine (letDLE (jappend_c _ _ hS.inw _ _ R12.out _ _ _ _ _ _ _ RA.out)).mono ?_; rintro e' w29 ⟨_, m29, rfl, ⟨p29, c29, q29, a29, D29, G29, E29, HR29, rfl, R29⟩, hk⟩; replace hS := hS.call hk; clear hk)
    | (go_at_call 34; (fail_if_success (clear Mk12)); refine (letDE (new_c _ _ hS.inw _)).mono ?_; rintro e' w12 ⟨_, m12, rfl, ⟨p12, c12, q12, a12, D12, E12, HD12, HE12, rfl, R12⟩, hk⟩; replace hS := hS.call hk; (try replace R12 := Lib.hid (Lay.mono _ hk.le R12.out)); (try replace R29 := Lib.hid (Lay.mono _ hk.le R29.out)); (try replace R35 := Lib.hid (Lay.mono _ hk.le R35.out)); clear hk; obtain rfl : E12 = 0 := HE12.out.trans (by decide); have Mk12 := True.intro)
    | (go_at_call 60; (fail_if_success (clear Mk16)); refine (letLE (jopen_c _ _ hS.inw _ _ _)).mono ?_; rintro e' w16 ⟨_, m16, rfl, ⟨G16, E16, HG16, HE16, rfl⟩, hk⟩; replace hS := hS.call hk; (try replace R12 := Lib.hid (Lay.mono _ hk.le R12.out)); (try replace R29 := Lib.hid (Lay.mono _ hk.le R29.out)); (try replace R35 := Lib.hid (Lay.mono _ hk.le R35.out)); clear hk; obtain rfl : E16 = 0 := HE16.out.trans (by decide); obtain rfl : G16 = ⟨1, 3, 5, 0, 0⟩ := HG16.out.trans (lopen_ok (by decide)); have Mk16 := True.intro)
    | (go_at_call 58; (fail_if_success (clear Mk21)); refine (letII (jneed_c _ _ hS.inw _ _ _ (by omega))).mono ?_; rintro e' w21 ⟨_, m21, rfl, ⟨N21, E21, HN21, HE21, rfl⟩, hk⟩; replace hS := hS.call hk; (try replace R12 := Lib.hid (Lay.mono _ hk.le R12.out)); (try replace R29 := Lib.hid (Lay.mono _ hk.le R29.out)); (try replace R35 := Lib.hid (Lay.mono _ hk.le R35.out)); clear hk; obtain rfl : E21 = 0 := HE21.out.trans (by decide); obtain rfl : N21 = 2 := HN21.out.trans (by decide); have Mk21 := True.intro))
  have e29 : (D29, G29, E29) = appR (newD 4) ⟨1, 3, 5, 0, 0⟩ [97, 98, 99] := HR29.out.trans (by rw [HD12.out])
  have eG : G29.pos = 1 := by rw [show G29 = (appR (newD 4) ⟨1, 3, 5, 0, 0⟩ [97, 98, 99]).2.1 by rw [← e29]]; exact app_ex.1
  have eE : E29 = 0 := by rw [show E29 = (appR (newD 4) ⟨1, 3, 5, 0, 0⟩ [97, 98, 99]).2.2 by rw [← e29]]; exact app_ex.2
  have eT : scanT D29 1 3 5 = [[97, 98, 99]] ∧ scanE D29 1 3 5 = 0 := by rw [show D29 = (appR (newD 4) ⟨1, 3, 5, 0, 0⟩ [97, 98, 99]).1 by rw [← e29]]; exact scan_ex
  subst eE
  have HT := Lib.hid eT
  clear e29 eT
  go_upto_region 6 with (first
    | ((with_reducible refine' Wl.out ?_; apply wl_alloc (ty := 44) (dst := some 1) hS (.agg #[.slice none 0 0, .slice none 0 0, .int .i64 0, .bool false]) [.slice none 0 0, .slice none 0 0, .int .i64 0, .bool false]); (· kernel_rfl); (· rfl); clear hS; intro w1 b1 hS)
    | ((with_reducible refine' Wl.out ?_; apply wl_alloc (ty := 70) (dst := some 3) hS (.agg #[.int .i64 0, .int .i64 0, .int .i64 0, .int .i64 0, .int .i64 0]) [.int .i64 0, .int .i64 0, .int .i64 0, .int .i64 0, .int .i64 0]); (· kernel_rfl); (· rfl); clear hS; intro w3 b3 hS)
    | ((with_reducible refine' Wl.out ?_; apply wl_alloc (ty := 70) (dst := some 9) hS (.agg #[.int .i64 0, .int .i64 0, .int .i64 0, .int .i64 0, .int .i64 0]) [.int .i64 0, .int .i64 0, .int .i64 0, .int .i64 0, .int .i64 0]); (· kernel_rfl); (· rfl); clear hS; intro w9 b9 hS)
    | ((with_reducible refine' Wl.out ?_; apply wl_load hS); (· (first | exact Try.underlying3 | exact Try.underlying22)); (· exact rfl); (· exact rfl); (· (first | (apply Find.box; (· (repeat constructor)); rfl) | exact Find.mem (by assumption) | (apply Find.row; (· (repeat constructor)); assumption))))
    | ((with_reducible refine' Wl.out ?_; apply wg_load hS); (· (first | exact Try.underlying3 | exact Try.underlying22)); (· exact rfl); (· (first | rfl | (go_simp; done))); (· exact rfl); (· (first | (apply Find.box; (· (repeat constructor)); rfl) | exact Find.mem (by assumption) | (apply Find.row; (· (repeat constructor)); assumption))))
    | ((with_reducible refine' Wl.out ?_; apply wl_loads hS); (· (first | exact rowT44 | exact rowT70)); (· exact rfl); (· (first | (apply Finds.box; (· (repeat constructor)); (· (repeat constructor)); done) | (refine Finds.mem2 (by assumption) ?_; first | rfl | assumption | (simp; done)) | (apply Finds.row; (· (repeat constructor)); (· assumption); (· rfl)))))
    | ((with_reducible refine' Wl.out ?_; apply wg_loads hS); (· (first | exact rowT44 | exact rowT70)); (· (first | rfl | (go_simp; done))); (· exact rfl); (· (first | (apply Finds.box; (· (repeat constructor)); (· (repeat constructor)); done) | (refine Finds.mem2 (by assumption) ?_; first | rfl | assumption | (simp; done)) | (apply Finds.row; (· (repeat constructor)); (· assumption); (· rfl)))))
    | ((with_reducible refine' Wl.out ?_); (with_reducible refine' wg_case ?_ ?_) <;> (intro hgW; (try (have hg2 := hgW; simp [go_sem] at hg2)); (first | (exfalso; assumption) | ((with_reducible refine' Wl.out ?_; apply wl_unwanted); (· exact hgW)) | ((with_reducible refine' Wl.out ?_; apply wg_load hS); (· (first | exact Try.underlying3 | exact Try.underlying22)); (· exact rfl); (· exact hgW); (· exact rfl); (· (first | (apply Find.box; (· (repeat constructor)); rfl) | exact Find.mem (by assumption) | (apply Find.row; (· (repeat constructor)); assumption)))) | ((with_reducible refine' Wl.out ?_; apply wg_loads hS); (· (first | exact rowT44 | exact rowT70)); (· exact hgW); (· exact rfl); (· (first | (apply Finds.box; (· (repeat constructor)); (· (repeat constructor)); done) | (refine Finds.mem2 (by assumption) ?_; first | rfl | assumption | (simp; done)) | (apply Finds.row; (· (repeat constructor)); (· assumption); (· rfl)))))); clear hgW))
    | ((with_reducible refine' Wl.out ?_; apply wl_stores hS); (· (first | exact rowT44 | exact rowT70)); (· exact rfl); (· exact rfl); (· exact rfl); (· (first | assumption | (simp [Value.oneCell']; done))); (· (repeat constructor)); (· (repeat constructor)); (· (repeat constructor)); clear hS; intro ws hS)
    | (go_at_call 56; (fail_if_success (clear Mk35)); refine (letTLE (jscan_c _ _ hS.inw _ _ (by first | exact R12.out | exact R29.out | exact R35.out | exact dkL_dry R12.out | exact dkL_dry R29.out | exact Lay.nil_rd _ _) _ _ _)).mono ?_; rintro e' w35 ⟨_, m35, rfl, ⟨p35, c35, T35, G35, E35, HT35, HG35, HE35, rfl, R35, C35⟩, hk⟩; replace hS := hS.call hk; (try replace R12 := Lib.hid (Lay.mono _ hk.le R12.out)); (try replace R29 := Lib.hid (Lay.mono _ hk.le R29.out)); (try replace R35 := Lib.hid (Lay.mono _ hk.le R35.out)); clear hk; obtain rfl : E35 = 0 := HE35.out.trans HT.out.2; obtain rfl : T35 = [[97, 98, 99]] := HT35.out.trans HT.out.1; have Mk35 := True.intro))
  obtain ⟨_, _, e, _, _, _, h4⟩ := Lay.list_open R35.out
  cases e
  obtain ⟨b, o, cs, rfl, hx, hg⟩ := h4.get 0 (by decide)
  obtain ⟨q, c, rfl, x1, x2, x3, x4⟩ := (show ∃ q c, cs = [.slice q 3 c] ∧ _ from hx)
  have hg' : m35 ⟨b, o, none⟩ = some (.slice q 3 c) := by have := hg 0 _ rfl; simpa using this
  have kc := conv_row (c := c) (xs := [97, 98, 99]) (x4.rdInt hS.inw)
  have hc35 := C35.out
  have es : (strOfNums [97, 98, 99]).toList = [97, 98, 99] := by decide +kernel
  simp only [List.length_cons, List.length_nil, Nat.zero_add] at hc35 kc
  have hc36 : c35 ≤ 9223372036854775807 := by simpa [maxLen] using hc35.2
  generalize strOfNums [97, 98, 99] = S at *
  have hc34 := hc35.1
  clear hx hg x1 x2 x3 x4 h4 hc35
  go_wp2_with (first
    | ((with_reducible refine' Wl.out ?_; apply wl_alloc (ty := 44) (dst := some 1) hS (.agg #[.slice none 0 0, .slice none 0 0, .int .i64 0, .bool false]) [.slice none 0 0, .slice none 0 0, .int .i64 0, .bool false]); (· kernel_rfl); (· rfl); clear hS; intro w1 b1 hS)
    | ((with_reducible refine' Wl.out ?_; apply wl_alloc (ty := 70) (dst := some 3) hS (.agg #[.int .i64 0, .int .i64 0, .int .i64 0, .int .i64 0, .int .i64 0]) [.int .i64 0, .int .i64 0, .int .i64 0, .int .i64 0, .int .i64 0]); (· kernel_rfl); (· rfl); clear hS; intro w3 b3 hS)
    | ((with_reducible refine' Wl.out ?_; apply wl_alloc (ty := 70) (dst := some 9) hS (.agg #[.int .i64 0, .int .i64 0, .int .i64 0, .int .i64 0, .int .i64 0]) [.int .i64 0, .int .i64 0, .int .i64 0, .int .i64 0, .int .i64 0]); (· kernel_rfl); (· rfl); clear hS; intro w9 b9 hS)
    | ((with_reducible refine' Wl.out ?_; apply wl_load hS); (· (first | exact Try.underlying3 | exact Try.underlying22)); (· exact rfl); (· exact rfl); (· (first | (apply Find.box; (· (repeat constructor)); rfl) | exact Find.mem (by assumption) | (apply Find.row; (· (repeat constructor)); assumption))))
    | ((with_reducible refine' Wl.out ?_; apply wg_load hS); (· (first | exact Try.underlying3 | exact Try.underlying22)); (· exact rfl); (· (first | rfl | (go_simp; done))); (· exact rfl); (· (first | (apply Find.box; (· (repeat constructor)); rfl) | exact Find.mem (by assumption) | (apply Find.row; (· (repeat constructor)); assumption))))
    | ((with_reducible refine' Wl.out ?_; apply wl_loads hS); (· (first | exact rowT44 | exact rowT70)); (· exact rfl); (· (first | (apply Finds.box; (· (repeat constructor)); (· (repeat constructor)); done) | (refine Finds.mem2 (by assumption) ?_; first | rfl | assumption | (simp; done)) | (apply Finds.row; (· (repeat constructor)); (· assumption); (· rfl)))))
    | ((with_reducible refine' Wl.out ?_; apply wg_loads hS); (· (first | exact rowT44 | exact rowT70)); (· (first | rfl | (go_simp; done))); (· exact rfl); (· (first | (apply Finds.box; (· (repeat constructor)); (· (repeat constructor)); done) | (refine Finds.mem2 (by assumption) ?_; first | rfl | assumption | (simp; done)) | (apply Finds.row; (· (repeat constructor)); (· assumption); (· rfl)))))
    | ((with_reducible refine' Wl.out ?_); (with_reducible refine' wg_case ?_ ?_) <;> (intro hgW; (try (have hg2 := hgW; simp [go_sem] at hg2)); (first | (exfalso; assumption) | ((with_reducible refine' Wl.out ?_; apply wl_unwanted); (· exact hgW)) | ((with_reducible refine' Wl.out ?_; apply wg_load hS); (· (first | exact Try.underlying3 | exact Try.underlying22)); (· exact rfl); (· exact hgW); (· exact rfl); (· (first | (apply Find.box; (· (repeat constructor)); rfl) | exact Find.mem (by assumption) | (apply Find.row; (· (repeat constructor)); assumption)))) | ((with_reducible refine' Wl.out ?_; apply wg_loads hS); (· (first | exact rowT44 | exact rowT70)); (· exact hgW); (· exact rfl); (· (first | (apply Finds.box; (· (repeat constructor)); (· (repeat constructor)); done) | (refine Finds.mem2 (by assumption) ?_; first | rfl | assumption | (simp; done)) | (apply Finds.row; (· (repeat constructor)); (· assumption); (· rfl)))))); clear hgW))
    | ((with_reducible refine' Wl.out ?_; apply wl_stores hS); (· (first | exact rowT44 | exact rowT70)); (· exact rfl); (· exact rfl); (· exact rfl); (· (first | assumption | (simp [Value.oneCell']; done))); (· (repeat constructor)); (· (repeat constructor)); (· (repeat constructor)); clear hS; intro ws hS))
  go_ret
  exact ⟨_, _, rfl, rfl, hS.done⟩
end Go.Proofs.Ytnmgiiaejpaeeaa
/- Arguments of layer 20's laws. -/
namespace Go.Proofs.Ytnmgiiaejpaeeaa
set_option linter.unusedVariables false
set_option linter.unusedSimpArgs false
open Go.RowKit Go.Shelf
section
open Go.Joins Go.WideShapes Go.Deep
variable {H : Type} {enc : TypeId × Value → H} {P : Program} {w : World} {base : Nat} {spare : Nat → Bool} {held : Bool}
theorem array5 {α : Type} {cs : Array α} (h : cs.size = 5) : ∃ c0 c1 c2 c3 c4, cs = #[c0, c1, c2, c3, c4] := by
  obtain ⟨l⟩ := cs
  match l, h with
  | [c0, c1, c2, c3, c4], _ => exact ⟨c0, c1, c2, c3, c4, rfl⟩
theorem trod_struct5 {t : TypeId} {f0 f1 f2 f3 f4 : Field} {fuel : Nat} {cs : List Value} {x : DataW H × List MemPlace} (ht : P.underlying t = some (.struct #[f0, f1, f2, f3, f4])) (h : DataW.trod enc P w base spare held fuel t cs = some x) :
    ∃ y0 y1 y2 y3 y4 n, x = (.agg [y0.1, y1.1, y2.1, y3.1, y4.1], y0.2 ++ (y1.2 ++ (y2.2 ++ (y3.2 ++ y4.2)))) ∧ cs.length = P.cellsOf t ∧ DataW.trod enc P w base spare held n f0.type ((cs.drop f0.offset).take (P.cellsOf f0.type)) = some y0 ∧
      DataW.trod enc P w base spare held n f1.type ((cs.drop f1.offset).take (P.cellsOf f1.type)) = some y1 ∧ DataW.trod enc P w base spare held n f2.type ((cs.drop f2.offset).take (P.cellsOf f2.type)) = some y2 ∧
      DataW.trod enc P w base spare held n f3.type ((cs.drop f3.offset).take (P.cellsOf f3.type)) = some y3 ∧ DataW.trod enc P w base spare held n f4.type ((cs.drop f4.offset).take (P.cellsOf f4.type)) = some y4 := by
  obtain ⟨xs, n, _, rfl, hl, hlen, hf⟩ := DataW.trod_struct ht h
  match xs, hlen with
  | [y0, y1, y2, y3, y4], _ => exact ⟨y0, y1, y2, y3, y4, n, by simp, hl, by simpa using hf 0 f0 rfl, by simpa using hf 1 f1 rfl, by simpa using hf 2 f2 rfl, by simpa using hf 3 f3 rfl, by simpa using hf 4 f4 rfl⟩
theorem open_agg5 {r : Reach} {b0 : Nat} {t : TypeId} {f0 f1 f2 f3 f4 : Field} {v : Value} {d : DataW H} {p : List MemPlace} (hs : P.underlying t = some (.struct #[f0, f1, f2, f3, f4])) (hone : oneCellFields P #[f0, f1, f2, f3, f4] = true) (hC : P.cellsOf t = 5)
    (hv : Value.okWide P w r b0 t v) (h : DataW.Trod enc P w base spare held t v d p) :
    ∃ (v0 v1 v2 v3 v4 : Value) (y0 y1 y2 y3 y4 : DataW H × List MemPlace) (n : Nat), v = .agg #[v0, v1, v2, v3, v4] ∧ d = .agg [y0.1, y1.1, y2.1, y3.1, y4.1] ∧ p = y0.2 ++ (y1.2 ++ (y2.2 ++ (y3.2 ++ y4.2))) ∧
      DataW.trod enc P w base spare held n f0.type [v0] = some y0 ∧ DataW.trod enc P w base spare held n f1.type [v1] = some y1 ∧ DataW.trod enc P w base spare held n f2.type [v2] = some y2 ∧ DataW.trod enc P w base spare held n f3.type [v3] = some y3 ∧ DataW.trod enc P w base spare held n f4.type [v4] = some y4 := by
  obtain ⟨cs, rfl, hsz⟩ := okWide_struct hs hv
  obtain ⟨c0, c1, c2, c3, c4, rfl⟩ := array5 (hsz.trans hC)
  obtain ⟨fuel, hf⟩ := h
  obtain ⟨y0, y1, y2, y3, y4, n, hx, _, h0, h1, h2, h3, h4⟩ := trod_struct5 hs hf
  obtain ⟨o0, k0⟩ := hone_of hone 0 f0 rfl
  obtain ⟨o1, k1⟩ := hone_of hone 1 f1 rfl
  obtain ⟨o2, k2⟩ := hone_of hone 2 f2 rfl
  obtain ⟨o3, k3⟩ := hone_of hone 3 f3 rfl
  obtain ⟨o4, k4⟩ := hone_of hone 4 f4 rfl
  simp only [Prod.mk.injEq] at hx
  exact ⟨c0, c1, c2, c3, c4, y0, y1, y2, y3, y4, n, rfl, hx.1, hx.2, by simpa [Value.cells, o0, k0] using h0, by simpa [Value.cells, o1, k1] using h1, by simpa [Value.cells, o2, k2] using h2, by simpa [Value.cells, o3, k3] using h3, by simpa [Value.cells, o4, k4] using h4⟩
end
/-- A journal lies at v. -/
def LgArg (v : Value) (g : Lg) : Prop := v = .agg (lgV g).toArray ∧ InK .i64 g.base ∧ InK .i64 g.size ∧ InK .i64 g.gen ∧ InK .i64 g.pos ∧ InK .i64 g.n
set_option maxRecDepth 100000 in
theorem openLog {H : Type} {enc : TypeId × Value → H} {W : World} {sp : Nat → Bool} {hd : Bool} {v : Value} {d : DataW H} {ps : List MemPlace} {r : Reach} {b0 : Nat} (hv : Value.okWide Try.prog W r b0 70 v) (h : DataW.Trod enc Try.prog W 0 sp hd 70 v d ps) (hw : ∀ n ∈ d.weights Try.prog 70, n ≤ reachBytes) : ∃ x, LgArg v x := by
  obtain ⟨v0, v1, v2, v3, v4, y0, y1, y2, y3, y4, n, rfl, rfl, rfl, h0, h1, h2, h3, h4⟩ := open_agg5 Try.underlying70 (by kernel_rfl) (by kernel_rfl) hv h
  have W0 : ∀ (y : DataW H × List MemPlace) (t : TypeId), (y, t) ∈ [(y0, 3), (y1, 3), (y2, 2), (y3, 3), (y4, 2)] → ∀ k ∈ y.1.weights Try.prog t, k ≤ reachBytes := fun y t hy k hk => hw k (by
    simp only [List.mem_cons, List.mem_nil_iff, or_false, Prod.mk.injEq] at hy
    simp [DataW.weights, Try.underlying70, DataW.weightsEach]
    rcases hy with ⟨rfl, rfl⟩ | ⟨rfl, rfl⟩ | ⟨rfl, rfl⟩ | ⟨rfl, rfl⟩ | ⟨rfl, rfl⟩ <;> simp [hk])
  obtain ⟨x0, e0, i0⟩ := Opens.int (k := .i64) Try.underlying3 H enc W sp hd n [v0] y0.1 y0.2 h0 (W0 _ _ (by simp))
  obtain ⟨x1, e1, i1⟩ := Opens.int (k := .i64) Try.underlying3 H enc W sp hd n [v1] y1.1 y1.2 h1 (W0 _ _ (by simp))
  obtain ⟨x2, e2, i2⟩ := Opens.int (k := .i64) Try.underlying2 H enc W sp hd n [v2] y2.1 y2.2 h2 (W0 _ _ (by simp))
  obtain ⟨x3, e3, i3⟩ := Opens.int (k := .i64) Try.underlying3 H enc W sp hd n [v3] y3.1 y3.2 h3 (W0 _ _ (by simp))
  obtain ⟨x4, e4, i4⟩ := Opens.int (k := .i64) Try.underlying2 H enc W sp hd n [v4] y4.1 y4.2 h4 (W0 _ _ (by simp))
  cases e0; cases e1; cases e2; cases e3; cases e4
  exact ⟨⟨x0, x1, x2, x3, x4⟩, rfl, i0, i1, i2, i3, i4⟩

set_option maxRecDepth 100000 in
theorem openBytes {H : Type} {enc : TypeId × Value → H} {W : World} {sp : Nat → Bool} {hd : Bool} {v : Value} {d : DataW H} {ps : List MemPlace} {r : Reach} {b0 : Nat} (hv : Value.okWide Try.prog W r b0 73 v) (h : DataW.Trod enc Try.prog W 0 sp hd 73 v d ps) (hw : ∀ n ∈ d.weights Try.prog 73, n ≤ reachBytes) : ∃ x, textsL.rd (World.mem W) [v] x := by
  obtain ⟨a, len, cap, rfl⟩ := Go.WideShapes.okWide_slice Try.underlying73 hv
  obtain ⟨fuel, hf⟩ := h
  exact Opens.list (L := bytesL) Try.underlying73 (Opens.list (L := u8L) Try.underlying22 (Opens.int Try.underlying5) (by kernel_rfl) (by kernel_rfl) (by decide)) (by kernel_rfl) (by kernel_rfl) (by decide) H enc W sp hd fuel _ d ps (by simpa [Value.cells] using hf) hw
end Go.Proofs.Ytnmgiiaejpaeeaa
