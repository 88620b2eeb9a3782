/- The walk of ModelMap. -/
import Derived.Test.YtdeeclnjkjapcaaDoorMd23G
import Derived.Deep.CutBlock
namespace Go.Proofs.YtdeeclnjkjapcaaDoor
set_option linter.unusedVariables false
set_option linter.unusedSimpArgs false
open Go.RowKit Go.Shelf
theorem mapTV : MapTV Tryd.prog 30 2 32 .i64 (.slice none 0 0) := ⟨Tryd.underlying2, Tryd.underlying30, by kernel_rfl⟩
theorem mm_writes {M : Md} {a : Ak} : (a.kind ≤ 3 ∧ ((doR M a).e == 0) = true) ∨ (a.kind ≤ 3 ∧ ((doR M a).e == 0) = false ∧ doL M a = M.l) ∨ (¬ a.kind ≤ 3 ∧ doL M a = M.l) := by
  by_cases h3 : a.kind ≤ 3
  · by_cases h0 : (doR M a).e = 0
    · exact .inl ⟨h3, by simp [h0]⟩
    · exact .inr (.inl ⟨h3, by simp [h0], doL_same h0⟩)
  · exact .inr (.inr ⟨h3, doL_read (by omega)⟩)
set_option maxRecDepth 100000 in
set_option maxHeartbeats 16000000 in
theorem walkModelMap (w : World) (hG : ShAt (World.mem w)) (many : Int) (hmany : (Lit.int .i64 many).wf = true) (vl : Value) (l : List Ak) (hl : akL.list.rd (World.mem w) [vl] l) :
    Calls Tryd.prog 3 #[.int .i64 many, vl] w fun e w' => e = .returned (.bool true) ∧ Below w.heap.size w w' := by
  obtain ⟨p, cl, rfl, l1, l2, l3, HAr⟩ := Lay.list_open hl
  have hS := St.start (World.mem_in w)
  have HG := Lib.hid hG
  have HA := Lib.hid HAr
  have hlm : l.length ≤ 9223372036854775807 := by simp only [maxLen] at l2; omega
  clear hG hmany hl HAr l1 l2 l3
  by_cases h1 : many < 1
  · go_enter Tryd.func3, Tryd.ntmps3
    go_wp2_with (first
    | ((with_reducible refine' Wl.out ?_; apply k_alloc (ty := 26) (dst := some 6) hS); (· exact .mk); clear hS; intro w6 b6 hS)
    | ((with_reducible refine' Wl.out ?_; apply k_alloc (ty := 34) (dst := some 10) hS); (· exact .mk); clear hS; intro w10 b10 hS)
    | ((with_reducible refine' Wl.out ?_; apply k_alloc (ty := 26) (dst := some 11) hS); (· exact .mk); clear hS; intro w11 b11 hS)
    | ((with_reducible refine' Wl.out ?_; apply k_alloc (ty := 37) (dst := some 12) hS); (· exact .mk); clear hS; intro w12 b12 hS)
    | ((with_reducible refine' Wl.out ?_; apply k_alloc (ty := 45) (dst := some 19) hS); (· exact .mk); clear hS; intro w19 b19 hS)
    | ((with_reducible refine' Wl.out ?_; apply k_load hS); (· exact .mk))
    | ((with_reducible refine' Wl.out ?_; apply k_loads hS); (· exact .mk))
    | go_skip
    | ((with_reducible refine' Wl.out ?_; apply kg_load hS); iterate 2 (· exact .mk))
    | ((with_reducible refine' Wl.out ?_; apply kg_loads hS); iterate 2 (· exact .mk))
    | ((with_reducible refine' Wl.out ?_; refine' wg_case ?_ ?_) <;> (intro hgW; (try (have hg2 := hgW; simp [go_sem] at hg2)); (first | (exfalso; assumption) | ((with_reducible refine' Wl.out ?_; apply k_no hgW)) | ((with_reducible refine' Wl.out ?_; apply kg_load hS ⟨hgW⟩); (· exact .mk)) | ((with_reducible refine' Wl.out ?_; apply kg_loads hS ⟨hgW⟩); (· exact .mk))); clear hgW))
    | ((with_reducible refine' Wl.out ?_; apply k_stores hS); (· exact .mk); clear hS; intro ws hS)
      | (go_at_call 5; refine (live19_c _ _ hS.inw (ShAt.mono hS.le HG.out)).mono ?_; rintro e' w22 ⟨_, m22, rfl, rfl, hk⟩; replace hS := hS.grow (grownBy_of_below hk.below); clear hk))
    all_goals (first | (go_ret; exact ⟨rfl, hS.below⟩) | (go_ret; refine ⟨?_, hS.below⟩; simp; done))
  by_cases h2 : 20 < many
  · go_enter Tryd.func3, Tryd.ntmps3
    go_wp2_with (first
    | ((with_reducible refine' Wl.out ?_; apply k_alloc (ty := 26) (dst := some 6) hS); (· exact .mk); clear hS; intro w6 b6 hS)
    | ((with_reducible refine' Wl.out ?_; apply k_alloc (ty := 34) (dst := some 10) hS); (· exact .mk); clear hS; intro w10 b10 hS)
    | ((with_reducible refine' Wl.out ?_; apply k_alloc (ty := 26) (dst := some 11) hS); (· exact .mk); clear hS; intro w11 b11 hS)
    | ((with_reducible refine' Wl.out ?_; apply k_alloc (ty := 37) (dst := some 12) hS); (· exact .mk); clear hS; intro w12 b12 hS)
    | ((with_reducible refine' Wl.out ?_; apply k_alloc (ty := 45) (dst := some 19) hS); (· exact .mk); clear hS; intro w19 b19 hS)
    | ((with_reducible refine' Wl.out ?_; apply k_load hS); (· exact .mk))
    | ((with_reducible refine' Wl.out ?_; apply k_loads hS); (· exact .mk))
    | go_skip
    | ((with_reducible refine' Wl.out ?_; apply kg_load hS); iterate 2 (· exact .mk))
    | ((with_reducible refine' Wl.out ?_; apply kg_loads hS); iterate 2 (· exact .mk))
    | ((with_reducible refine' Wl.out ?_; refine' wg_case ?_ ?_) <;> (intro hgW; (try (have hg2 := hgW; simp [go_sem] at hg2)); (first | (exfalso; assumption) | ((with_reducible refine' Wl.out ?_; apply k_no hgW)) | ((with_reducible refine' Wl.out ?_; apply kg_load hS ⟨hgW⟩); (· exact .mk)) | ((with_reducible refine' Wl.out ?_; apply kg_loads hS ⟨hgW⟩); (· exact .mk))); clear hgW))
    | ((with_reducible refine' Wl.out ?_; apply k_stores hS); (· exact .mk); clear hS; intro ws hS)
      | (go_at_call 5; refine (live19_c _ _ hS.inw (ShAt.mono hS.le HG.out)).mono ?_; rintro e' w22 ⟨_, m22, rfl, rfl, hk⟩; replace hS := hS.grow (grownBy_of_below hk.below); clear hk))
    all_goals (first | (go_ret; exact ⟨rfl, hS.below⟩) | (go_ret; refine ⟨?_, hS.below⟩; simp; done))
  by_cases h3 : (80 : Int) < l.length
  · go_enter Tryd.func3, Tryd.ntmps3
    go_wp2_with (first
    | ((with_reducible refine' Wl.out ?_; apply k_alloc (ty := 26) (dst := some 6) hS); (· exact .mk); clear hS; intro w6 b6 hS)
    | ((with_reducible refine' Wl.out ?_; apply k_alloc (ty := 34) (dst := some 10) hS); (· exact .mk); clear hS; intro w10 b10 hS)
    | ((with_reducible refine' Wl.out ?_; apply k_alloc (ty := 26) (dst := some 11) hS); (· exact .mk); clear hS; intro w11 b11 hS)
    | ((with_reducible refine' Wl.out ?_; apply k_alloc (ty := 37) (dst := some 12) hS); (· exact .mk); clear hS; intro w12 b12 hS)
    | ((with_reducible refine' Wl.out ?_; apply k_alloc (ty := 45) (dst := some 19) hS); (· exact .mk); clear hS; intro w19 b19 hS)
    | ((with_reducible refine' Wl.out ?_; apply k_load hS); (· exact .mk))
    | ((with_reducible refine' Wl.out ?_; apply k_loads hS); (· exact .mk))
    | go_skip
    | ((with_reducible refine' Wl.out ?_; apply kg_load hS); iterate 2 (· exact .mk))
    | ((with_reducible refine' Wl.out ?_; apply kg_loads hS); iterate 2 (· exact .mk))
    | ((with_reducible refine' Wl.out ?_; refine' wg_case ?_ ?_) <;> (intro hgW; (try (have hg2 := hgW; simp [go_sem] at hg2)); (first | (exfalso; assumption) | ((with_reducible refine' Wl.out ?_; apply k_no hgW)) | ((with_reducible refine' Wl.out ?_; apply kg_load hS ⟨hgW⟩); (· exact .mk)) | ((with_reducible refine' Wl.out ?_; apply kg_loads hS ⟨hgW⟩); (· exact .mk))); clear hgW))
    | ((with_reducible refine' Wl.out ?_; apply k_stores hS); (· exact .mk); clear hS; intro ws hS)
      | (go_at_call 5; refine (live19_c _ _ hS.inw (ShAt.mono hS.le HG.out)).mono ?_; rintro e' w22 ⟨_, m22, rfl, rfl, hk⟩; replace hS := hS.grow (grownBy_of_below hk.below); clear hk))
    all_goals (first | (go_ret; exact ⟨rfl, hS.below⟩) | (go_ret; refine ⟨?_, hS.below⟩; simp; done))
  have HMn : Hid (1 ≤ many ∧ many ≤ 256) := ⟨by omega, by omega⟩
  have HM0 : Hid (okM ⟨many, 1, []⟩) := ⟨HMn.out, ⟨(by decide : (1 : Int) ≤ 1), (by decide : (1 : Int) ≤ 64)⟩, by simp; omega, List.Pairwise.nil, by simp⟩
  go_enter Tryd.func3, Tryd.ntmps3
  go_wp2_with (first
    | ((with_reducible refine' Wl.out ?_; apply k_alloc (ty := 26) (dst := some 6) hS); (· exact .mk); clear hS; intro w6 b6 hS)
    | ((with_reducible refine' Wl.out ?_; apply k_alloc (ty := 34) (dst := some 10) hS); (· exact .mk); clear hS; intro w10 b10 hS)
    | ((with_reducible refine' Wl.out ?_; apply k_alloc (ty := 26) (dst := some 11) hS); (· exact .mk); clear hS; intro w11 b11 hS)
    | ((with_reducible refine' Wl.out ?_; apply k_alloc (ty := 37) (dst := some 12) hS); (· exact .mk); clear hS; intro w12 b12 hS)
    | ((with_reducible refine' Wl.out ?_; apply k_alloc (ty := 45) (dst := some 19) hS); (· exact .mk); clear hS; intro w19 b19 hS)
    | ((with_reducible refine' Wl.out ?_; apply k_load hS); (· exact .mk))
    | ((with_reducible refine' Wl.out ?_; apply k_loads hS); (· exact .mk))
    | go_skip
    | ((with_reducible refine' Wl.out ?_; apply kg_load hS); iterate 2 (· exact .mk))
    | ((with_reducible refine' Wl.out ?_; apply kg_loads hS); iterate 2 (· exact .mk))
    | ((with_reducible refine' Wl.out ?_; refine' wg_case ?_ ?_) <;> (intro hgW; (try (have hg2 := hgW; simp [go_sem] at hg2)); (first | (exfalso; assumption) | ((with_reducible refine' Wl.out ?_; apply k_no hgW)) | ((with_reducible refine' Wl.out ?_; apply kg_load hS ⟨hgW⟩); (· exact .mk)) | ((with_reducible refine' Wl.out ?_; apply kg_loads hS ⟨hgW⟩); (· exact .mk))); clear hgW))
    | ((with_reducible refine' Wl.out ?_; apply k_stores hS); (· exact .mk); clear hS; intro ws hS)
    | (go_at_call 5; refine (live19_c _ _ hS.inw (ShAt.mono hS.le HG.out)).mono ?_; rintro e' w22 ⟨_, m22, rfl, rfl, hk⟩; replace hS := hS.grow (grownBy_of_below hk.below); clear hk)
    | (go_at_call 6; refine (mnew_c _ _ hS.inw _ HMn.out).mono ?_; rintro e' w39 ⟨_, m39, rfl, rfl, hk⟩; replace hS := hS.grow (grownBy_of_below hk.below); clear hk)
    | ((with_reducible refine' Wl.out ?_; apply wl_makeMapV hS mapTV); clear hS; intro w44 b44 hS))
  go_loopw [47] (fun vi wr => ∃ (k : Nat) (L : List It) (q : Option Addr) (c : Nat) (f : Int → Option Value) (m' : Mem), k ≤ l.length ∧ vi = .int .i64 k ∧ Hid (okM ⟨many, 1, L⟩) ∧ Hid (LinkM m' f L) ∧ Hid (itL.list.rd m' [.slice q L.length c] L) ∧ St [] w (World.mem w) wr [.obj b44 (MapV Tryd.prog 2 .i64 L.length f), .box b6 [.int .i64 many, .int .i64 1, .slice q L.length c]] m') (fun vi _ => l.length - (intOf vi).toNat)
  case atStart => exact ⟨0, [], none, 0, fun _ => none, _, Nat.zero_le _, rfl, HM0, LinkM.nil _, Lay.nil_rd _ _, hS⟩
  case round =>
    clear hS
    obtain ⟨k, L, q, c, f, mk, hk, rfl, HM, HLk, HRd, hS⟩ := hrel
    by_cases hlt : k < l.length
    · obtain ⟨b, o, qa, ca, rfl, hcx, ika, ska, hva⟩ := (HA.out.mono hS.le).askAt k hlt
      have hkz : (k : Int) < l.length := by omega
      generalize l.getD k akz = a at *
      obtain ⟨kind, id, kk, seed, v⟩ := a
      dsimp only at hcx ika ska hva
      have HId := Lib.hid ika
      have HSd := Lib.hid ska
      have HVA := Lib.hid hva
      clear ika ska hva
      by_cases hbig : (100 : Int) < v.length
      · go_wp2_with (first
    | ((with_reducible refine' Wl.out ?_; apply k_alloc (ty := 26) (dst := some 6) hS); (· exact .mk); clear hS; intro w6 b6 hS)
    | ((with_reducible refine' Wl.out ?_; apply k_alloc (ty := 34) (dst := some 10) hS); (· exact .mk); clear hS; intro w10 b10 hS)
    | ((with_reducible refine' Wl.out ?_; apply k_alloc (ty := 26) (dst := some 11) hS); (· exact .mk); clear hS; intro w11 b11 hS)
    | ((with_reducible refine' Wl.out ?_; apply k_alloc (ty := 37) (dst := some 12) hS); (· exact .mk); clear hS; intro w12 b12 hS)
    | ((with_reducible refine' Wl.out ?_; apply k_alloc (ty := 45) (dst := some 19) hS); (· exact .mk); clear hS; intro w19 b19 hS)
    | ((with_reducible refine' Wl.out ?_; apply k_load hS); (· exact .mk))
    | ((with_reducible refine' Wl.out ?_; apply k_loads hS); (· exact .mk))
    | go_skip
    | ((with_reducible refine' Wl.out ?_; apply kg_load hS); iterate 2 (· exact .mk))
    | ((with_reducible refine' Wl.out ?_; apply kg_loads hS); iterate 2 (· exact .mk))
    | ((with_reducible refine' Wl.out ?_; refine' wg_case ?_ ?_) <;> (intro hgW; (try (have hg2 := hgW; simp [go_sem] at hg2)); (first | (exfalso; assumption) | ((with_reducible refine' Wl.out ?_; apply k_no hgW)) | ((with_reducible refine' Wl.out ?_; apply kg_load hS ⟨hgW⟩); (· exact .mk)) | ((with_reducible refine' Wl.out ?_; apply kg_loads hS ⟨hgW⟩); (· exact .mk))); clear hgW))
    | ((with_reducible refine' Wl.out ?_; apply k_stores hS); (· exact .mk); clear hS; intro ws hS))
        all_goals (first | (go_ret; exact ⟨rfl, hS.below⟩) | (go_ret; refine ⟨?_, hS.below⟩; simp; done))
      · by_cases hoa : okA ⟨kind, id, kk, seed, v⟩ 1 many
        case neg =>
          have HBad : Hid (doE (⟨many, 1, L⟩ : Md) ⟨kind, id, kk, seed, v⟩ = 1) := if_neg fun h => hoa h.2
          clear hoa
          go_wp2_with (first
    | ((with_reducible refine' Wl.out ?_; apply k_alloc (ty := 26) (dst := some 6) hS); (· exact .mk); clear hS; intro w6 b6 hS)
    | ((with_reducible refine' Wl.out ?_; apply k_alloc (ty := 34) (dst := some 10) hS); (· exact .mk); clear hS; intro w10 b10 hS)
    | ((with_reducible refine' Wl.out ?_; apply k_alloc (ty := 26) (dst := some 11) hS); (· exact .mk); clear hS; intro w11 b11 hS)
    | ((with_reducible refine' Wl.out ?_; apply k_alloc (ty := 37) (dst := some 12) hS); (· exact .mk); clear hS; intro w12 b12 hS)
    | ((with_reducible refine' Wl.out ?_; apply k_alloc (ty := 45) (dst := some 19) hS); (· exact .mk); clear hS; intro w19 b19 hS)
    | ((with_reducible refine' Wl.out ?_; apply k_load hS); (· exact .mk))
    | ((with_reducible refine' Wl.out ?_; apply k_loads hS); (· exact .mk))
    | go_skip
    | ((with_reducible refine' Wl.out ?_; apply kg_load hS); iterate 2 (· exact .mk))
    | ((with_reducible refine' Wl.out ?_; apply kg_loads hS); iterate 2 (· exact .mk))
    | ((with_reducible refine' Wl.out ?_; refine' wg_case ?_ ?_) <;> (intro hgW; (try (have hg2 := hgW; simp [go_sem] at hg2)); (first | (exfalso; assumption) | ((with_reducible refine' Wl.out ?_; apply k_no hgW)) | ((with_reducible refine' Wl.out ?_; apply kg_load hS ⟨hgW⟩); (· exact .mk)) | ((with_reducible refine' Wl.out ?_; apply kg_loads hS ⟨hgW⟩); (· exact .mk))); clear hgW))
    | ((with_reducible refine' Wl.out ?_; apply k_stores hS); (· exact .mk); clear hS; intro ws hS)
            | (go_at_call 7; refine (do_a _ _ hS.inw (ShAt.mono hS.le HG.out) q c ⟨many, 1, L⟩ HRd.out kind id kk seed v qa ca HVA.out HSd.out.2 HId.out).mono ?_; rintro e' w59 ⟨_, m59, rfl, ⟨T59, P59, E59, q59, c59, qv59, cv59, qh59, ch59, HT59, HP59, HE59, rfl, R59, V59, H59⟩, hk⟩; replace hS := hS.call hk; have HLE := Lib.hid hk.le; clear hk; obtain rfl : E59 = 1 := HE59.out.trans HBad.out))
          go_roundw
          case rel => exact ⟨k + 1, L, q, c, f, m59, hlt, by go_num, HM, Lib.hid (HLk.out.mono HLE.out), Lib.hid (Lay.mono _ HLE.out HRd.out), ((hS.forget (x := .box b12 _) (by (repeat constructor))).forget (x := .box b11 _) (by (repeat constructor))).forget (x := .box b10 _) (by (repeat constructor))⟩
          case measure => simp [intOf]; omega
        case pos =>
          have hok := HM.out
          obtain ⟨d1, d2, d3⟩ := doM_ok hok hoa
          have hok' := okM_do hok hoa
          have hcs := mm_case hok hoa
          have hwr := mm_writes (M := (⟨many, 1, L⟩ : Md)) (a := ⟨kind, id, kk, seed, v⟩)
          obtain ⟨L', hL'⟩ : ∃ L', L' = doL (⟨many, 1, L⟩ : Md) ⟨kind, id, kk, seed, v⟩ := ⟨_, rfl⟩
          rw [← hL'] at d1 hok' hcs hwr
          dsimp only at d1 hok' hcs hwr
          have HT := Lib.hid d1
          have HPe := Lib.hid d2
          have HEe := Lib.hid d3
          have HOk' := Lib.hid hok'
          have HCs := Lib.hid hcs
          have HWr := Lib.hid hwr
          have HCk : Hid (chkM ⟨many, 1, L'⟩ = 0) := if_pos hok'
          have HSo : Hid (Ris L) := hok.2.2.2.1
          have HSo' : Hid (Ris L') := hok'.2.2.2.1
          have hll : L.length ≤ 256 := by have h1 : (L.length : Int) ≤ many := hok.2.2.1; omega
          have hll' : L'.length ≤ 256 := by have h1 : (L'.length : Int) ≤ many := hok'.2.2.1; omega
          have HLt : Hid (L.length < maxLen) := by show _ < _; simp only [maxLen]; omega
          obtain ⟨V, hV⟩ : ∃ V, (f id).getD (.slice none 0 0) = V := ⟨_, rfl⟩
          obtain ⟨B, hB⟩ : ∃ B, (f id).isSome = B := ⟨_, rfl⟩
          have HV := Lib.hid hV
          have HB := Lib.hid hB
          have HBs : Hid (B = (getM L id).isSome) := hB.symm.trans (HLk.out.sm id)
          clear d1 d2 d3 hok hok' hcs hwr hV hB hL' hoa
          go_upto_block 2 with (first
    | ((with_reducible refine' Wl.out ?_; apply k_alloc (ty := 26) (dst := some 6) hS); (· exact .mk); clear hS; intro w6 b6 hS)
    | ((with_reducible refine' Wl.out ?_; apply k_alloc (ty := 34) (dst := some 10) hS); (· exact .mk); clear hS; intro w10 b10 hS)
    | ((with_reducible refine' Wl.out ?_; apply k_alloc (ty := 26) (dst := some 11) hS); (· exact .mk); clear hS; intro w11 b11 hS)
    | ((with_reducible refine' Wl.out ?_; apply k_alloc (ty := 37) (dst := some 12) hS); (· exact .mk); clear hS; intro w12 b12 hS)
    | ((with_reducible refine' Wl.out ?_; apply k_alloc (ty := 45) (dst := some 19) hS); (· exact .mk); clear hS; intro w19 b19 hS)
    | ((with_reducible refine' Wl.out ?_; apply k_load hS); (· exact .mk))
    | ((with_reducible refine' Wl.out ?_; apply k_loads hS); (· exact .mk))
    | go_skip
    | ((with_reducible refine' Wl.out ?_; apply kg_load hS); iterate 2 (· exact .mk))
    | ((with_reducible refine' Wl.out ?_; apply kg_loads hS); iterate 2 (· exact .mk))
    | ((with_reducible refine' Wl.out ?_; refine' wg_case ?_ ?_) <;> (intro hgW; (try (have hg2 := hgW; simp [go_sem] at hg2)); (first | (exfalso; assumption) | ((with_reducible refine' Wl.out ?_; apply k_no hgW)) | ((with_reducible refine' Wl.out ?_; apply kg_load hS ⟨hgW⟩); (· exact .mk)) | ((with_reducible refine' Wl.out ?_; apply kg_loads hS ⟨hgW⟩); (· exact .mk))); clear hgW))
    | ((with_reducible refine' Wl.out ?_; apply k_stores hS); (· exact .mk); clear hS; intro ws hS)
            | (go_at_call 7; refine (do_a _ _ hS.inw (ShAt.mono hS.le HG.out) q c ⟨many, 1, L⟩ HRd.out kind id kk seed v qa ca HVA.out HSd.out.2 HId.out).mono ?_; rintro e' w59 ⟨_, m59, rfl, ⟨T59, P59, E59, q59, c59, qv59, cv59, qh59, ch59, HT59, HP59, HE59, rfl, R59, V59, H59⟩, hk⟩; replace hS := hS.call hk; have HLE := Lib.hid hk.le; clear hk; obtain rfl : E59 = 0 := HE59.out.trans HEe.out; obtain rfl : T59 = ⟨many, 1, L'⟩ := HT59.out.trans HT.out; (try dsimp only at R59))
            | ((with_reducible refine' Wl.out ?_; apply wl_lookup2V hS mapTV); (· exact rfl); (· (repeat constructor)); (· exact rfl); (· exact HId.out); (· exact HV.out); (· exact HB.out)))
          have HP := Lib.hid (HP59.out.trans HPe.out)
          have hcs := HCs.out
          have hwr := HWr.out
          rw [← HP.out] at hcs hwr
          replace HCs := Lib.hid hcs
          replace HWr := Lib.hid hwr
          have HLm := Lib.hid (HLk.out.mono HLE.out)
          have HVA' := Lib.hid (Lay.mono _ HLE.out HVA.out)
          clear hcs hwr
          go_frame
          go_cut [16] from 48 to 176 (fun v16 wc => ∃ f', v16 = .int .i64 P59.e ∧ Hid (LinkM m59 f' L') ∧ St [] w (World.mem w) wc [.box b12 [.int .i64 P59.e, .slice qv59 P59.v.length cv59, .slice qh59 P59.hits.length ch59, .int .i64 P59.n], .box b11 [.int .i64 many, .int .i64 1, .slice q59 L'.length c59], .box b10 [.int .i64 kind, .int .i64 id, .int .i64 kk, .int .i64 seed, .slice qa v.length ca], .obj b44 (MapV Tryd.prog 2 .i64 L'.length f'), .box b6 [.int .i64 many, .int .i64 1, .slice q L.length c]] m59)
          case first =>
            rcases HCs.out with ⟨rfl, x1, x2, x3⟩ | ⟨xk, x1, xc, x2, x3⟩ | ⟨xk, x1, xc, x2, x3, x4⟩ | ⟨rfl, x1, x2, x3, x4⟩ | ⟨xk, x1, x2, x3⟩ | ⟨rfl, x1, x2, x3, x4⟩ | ⟨rfl, x1, xg, x2, x3⟩ | ⟨rfl, x2, xn, x3⟩ | ⟨xk, x2, x3⟩
            · have X2 := Lib.hid x2; have X3 := Lib.hid x3; clear x2 x3
              obtain rfl : B = true := HBs.out.trans x1
              clear x1
              go_wp2_with (first
    | ((with_reducible refine' Wl.out ?_; apply k_alloc (ty := 26) (dst := some 6) hS); (· exact .mk); clear hS; intro w6 b6 hS)
    | ((with_reducible refine' Wl.out ?_; apply k_alloc (ty := 34) (dst := some 10) hS); (· exact .mk); clear hS; intro w10 b10 hS)
    | ((with_reducible refine' Wl.out ?_; apply k_alloc (ty := 26) (dst := some 11) hS); (· exact .mk); clear hS; intro w11 b11 hS)
    | ((with_reducible refine' Wl.out ?_; apply k_alloc (ty := 37) (dst := some 12) hS); (· exact .mk); clear hS; intro w12 b12 hS)
    | ((with_reducible refine' Wl.out ?_; apply k_alloc (ty := 45) (dst := some 19) hS); (· exact .mk); clear hS; intro w19 b19 hS)
    | ((with_reducible refine' Wl.out ?_; apply k_load hS); (· exact .mk))
    | ((with_reducible refine' Wl.out ?_; apply k_loads hS); (· exact .mk))
    | go_skip
    | ((with_reducible refine' Wl.out ?_; apply kg_load hS); iterate 2 (· exact .mk))
    | ((with_reducible refine' Wl.out ?_; apply kg_loads hS); iterate 2 (· exact .mk))
    | ((with_reducible refine' Wl.out ?_; refine' wg_case ?_ ?_) <;> (intro hgW; (try (have hg2 := hgW; simp [go_sem] at hg2)); (first | (exfalso; assumption) | ((with_reducible refine' Wl.out ?_; apply k_no hgW)) | ((with_reducible refine' Wl.out ?_; apply kg_load hS ⟨hgW⟩); (· exact .mk)) | ((with_reducible refine' Wl.out ?_; apply kg_loads hS ⟨hgW⟩); (· exact .mk))); clear hgW))
    | ((with_reducible refine' Wl.out ?_; apply k_stores hS); (· exact .mk); clear hS; intro ws hS))
              go_meet
              case rel => exact ⟨f, by rw [X2.out], by rw [X3.out]; exact HLm, by rw [X3.out] at hS ⊢; exact hS⟩
            · have X2 := Lib.hid x2; have X3 := Lib.hid x3; clear x2 x3
              obtain rfl : B = false := HBs.out.trans x1
              have hfl : ((L.length : Int) == many) = true := by simpa using xc
              clear x1 xc
              rcases xk with rfl | rfl
              all_goals
                go_wp2_with (first
    | ((with_reducible refine' Wl.out ?_; apply k_alloc (ty := 26) (dst := some 6) hS); (· exact .mk); clear hS; intro w6 b6 hS)
    | ((with_reducible refine' Wl.out ?_; apply k_alloc (ty := 34) (dst := some 10) hS); (· exact .mk); clear hS; intro w10 b10 hS)
    | ((with_reducible refine' Wl.out ?_; apply k_alloc (ty := 26) (dst := some 11) hS); (· exact .mk); clear hS; intro w11 b11 hS)
    | ((with_reducible refine' Wl.out ?_; apply k_alloc (ty := 37) (dst := some 12) hS); (· exact .mk); clear hS; intro w12 b12 hS)
    | ((with_reducible refine' Wl.out ?_; apply k_alloc (ty := 45) (dst := some 19) hS); (· exact .mk); clear hS; intro w19 b19 hS)
    | ((with_reducible refine' Wl.out ?_; apply k_load hS); (· exact .mk))
    | ((with_reducible refine' Wl.out ?_; apply k_loads hS); (· exact .mk))
    | go_skip
    | ((with_reducible refine' Wl.out ?_; apply kg_load hS); iterate 2 (· exact .mk))
    | ((with_reducible refine' Wl.out ?_; apply kg_loads hS); iterate 2 (· exact .mk))
    | ((with_reducible refine' Wl.out ?_; refine' wg_case ?_ ?_) <;> (intro hgW; (try (have hg2 := hgW; simp [go_sem] at hg2)); (first | (exfalso; assumption) | ((with_reducible refine' Wl.out ?_; apply k_no hgW)) | ((with_reducible refine' Wl.out ?_; apply kg_load hS ⟨hgW⟩); (· exact .mk)) | ((with_reducible refine' Wl.out ?_; apply kg_loads hS ⟨hgW⟩); (· exact .mk))); clear hgW))
    | ((with_reducible refine' Wl.out ?_; apply k_stores hS); (· exact .mk); clear hS; intro ws hS)
                  | ((with_reducible refine' Wl.out ?_; apply wg_lenV hS mapTV); (· first | rfl | assumption | (go_simp; done)); (· exact rfl); (· (repeat constructor))))
                go_meet
                case rel => exact ⟨f, by rw [X2.out], by rw [X3.out]; exact HLm, by rw [X3.out] at hS ⊢; exact hS⟩
            · have X2 := Lib.hid x2; have X3 := Lib.hid x3; clear x2 x3
              obtain rfl : B = false := HBs.out.trans x1
              have hfl : ((L.length : Int) == many) = false := by simpa using xc
              obtain ⟨f', hf'⟩ : ∃ f', (fun z => if z = id then some (Value.slice qa v.length ca) else f z) = f' := ⟨_, rfl⟩
              have HF := Lib.hid hf'
              have HLn : Hid (LinkM m59 f' L') := by show LinkM _ _ _; rw [← hf', X3.out]; exact HLm.out.put HSo.out HVA'.out
              have HC : Hid ((if (f id).isSome then L.length else L.length + 1) = L'.length) := by show _ = _; rw [HB.out, x4]; rfl
              clear x1 xc x4 hf'
              rcases xk with rfl | rfl
              all_goals
                go_wp2_with (first
    | ((with_reducible refine' Wl.out ?_; apply k_alloc (ty := 26) (dst := some 6) hS); (· exact .mk); clear hS; intro w6 b6 hS)
    | ((with_reducible refine' Wl.out ?_; apply k_alloc (ty := 34) (dst := some 10) hS); (· exact .mk); clear hS; intro w10 b10 hS)
    | ((with_reducible refine' Wl.out ?_; apply k_alloc (ty := 26) (dst := some 11) hS); (· exact .mk); clear hS; intro w11 b11 hS)
    | ((with_reducible refine' Wl.out ?_; apply k_alloc (ty := 37) (dst := some 12) hS); (· exact .mk); clear hS; intro w12 b12 hS)
    | ((with_reducible refine' Wl.out ?_; apply k_alloc (ty := 45) (dst := some 19) hS); (· exact .mk); clear hS; intro w19 b19 hS)
    | ((with_reducible refine' Wl.out ?_; apply k_load hS); (· exact .mk))
    | ((with_reducible refine' Wl.out ?_; apply k_loads hS); (· exact .mk))
    | go_skip
    | ((with_reducible refine' Wl.out ?_; apply kg_load hS); iterate 2 (· exact .mk))
    | ((with_reducible refine' Wl.out ?_; apply kg_loads hS); iterate 2 (· exact .mk))
    | ((with_reducible refine' Wl.out ?_; refine' wg_case ?_ ?_) <;> (intro hgW; (try (have hg2 := hgW; simp [go_sem] at hg2)); (first | (exfalso; assumption) | ((with_reducible refine' Wl.out ?_; apply k_no hgW)) | ((with_reducible refine' Wl.out ?_; apply kg_load hS ⟨hgW⟩); (· exact .mk)) | ((with_reducible refine' Wl.out ?_; apply kg_loads hS ⟨hgW⟩); (· exact .mk))); clear hgW))
    | ((with_reducible refine' Wl.out ?_; apply k_stores hS); (· exact .mk); clear hS; intro ws hS)
                  | ((with_reducible refine' Wl.out ?_; apply wg_lenV hS mapTV); (· first | rfl | assumption | (go_simp; done)); (· exact rfl); (· (repeat constructor)))
                  | ((with_reducible refine' Wl.out ?_; apply wl_mapUpdateV hS mapTV); (· exact rfl); (· exact rfl); (· exact HId.out); (· exact rfl); (· exact HLt.out); (· exact HF.out); (· exact HC.out); (· repeat constructor); clear hS; intro ws hS))
                go_meet
                case rel => exact ⟨f', by rw [X2.out], HLn, hS⟩
            · have X2 := Lib.hid x2; have X3 := Lib.hid x3; clear x2 x3
              obtain rfl : B = true := HBs.out.trans x1
              obtain ⟨f', hf'⟩ : ∃ f', (fun z => if z = id then some (Value.slice qa v.length ca) else f z) = f' := ⟨_, rfl⟩
              have HF := Lib.hid hf'
              have HLn : Hid (LinkM m59 f' L') := by show LinkM _ _ _; rw [← hf', X3.out]; exact HLm.out.put HSo.out HVA'.out
              have HC : Hid ((if (f id).isSome then L.length else L.length + 1) = L'.length) := by show _ = _; rw [HB.out, x4]; rfl
              clear x1 x4 hf'
              go_wp2_with (first
    | ((with_reducible refine' Wl.out ?_; apply k_alloc (ty := 26) (dst := some 6) hS); (· exact .mk); clear hS; intro w6 b6 hS)
    | ((with_reducible refine' Wl.out ?_; apply k_alloc (ty := 34) (dst := some 10) hS); (· exact .mk); clear hS; intro w10 b10 hS)
    | ((with_reducible refine' Wl.out ?_; apply k_alloc (ty := 26) (dst := some 11) hS); (· exact .mk); clear hS; intro w11 b11 hS)
    | ((with_reducible refine' Wl.out ?_; apply k_alloc (ty := 37) (dst := some 12) hS); (· exact .mk); clear hS; intro w12 b12 hS)
    | ((with_reducible refine' Wl.out ?_; apply k_alloc (ty := 45) (dst := some 19) hS); (· exact .mk); clear hS; intro w19 b19 hS)
    | ((with_reducible refine' Wl.out ?_; apply k_load hS); (· exact .mk))
    | ((with_reducible refine' Wl.out ?_; apply k_loads hS); (· exact .mk))
    | go_skip
    | ((with_reducible refine' Wl.out ?_; apply kg_load hS); iterate 2 (· exact .mk))
    | ((with_reducible refine' Wl.out ?_; apply kg_loads hS); iterate 2 (· exact .mk))
    | ((with_reducible refine' Wl.out ?_; refine' wg_case ?_ ?_) <;> (intro hgW; (try (have hg2 := hgW; simp [go_sem] at hg2)); (first | (exfalso; assumption) | ((with_reducible refine' Wl.out ?_; apply k_no hgW)) | ((with_reducible refine' Wl.out ?_; apply kg_load hS ⟨hgW⟩); (· exact .mk)) | ((with_reducible refine' Wl.out ?_; apply kg_loads hS ⟨hgW⟩); (· exact .mk))); clear hgW))
    | ((with_reducible refine' Wl.out ?_; apply k_stores hS); (· exact .mk); clear hS; intro ws hS)
                | ((with_reducible refine' Wl.out ?_; apply wg_lenV hS mapTV); (· first | rfl | assumption | (go_simp; done)); (· exact rfl); (· (repeat constructor)))
                | ((with_reducible refine' Wl.out ?_; apply wl_mapUpdateV hS mapTV); (· exact rfl); (· exact rfl); (· exact HId.out); (· exact rfl); (· exact HLt.out); (· exact HF.out); (· exact HC.out); (· repeat constructor); clear hS; intro ws hS))
              go_meet
              case rel => exact ⟨f', by rw [X2.out], HLn, hS⟩
            · have X2 := Lib.hid x2; have X3 := Lib.hid x3; clear x2 x3
              obtain rfl : B = false := HBs.out.trans x1
              clear x1
              rcases xk with rfl | rfl
              all_goals
                go_wp2_with (first
    | ((with_reducible refine' Wl.out ?_; apply k_alloc (ty := 26) (dst := some 6) hS); (· exact .mk); clear hS; intro w6 b6 hS)
    | ((with_reducible refine' Wl.out ?_; apply k_alloc (ty := 34) (dst := some 10) hS); (· exact .mk); clear hS; intro w10 b10 hS)
    | ((with_reducible refine' Wl.out ?_; apply k_alloc (ty := 26) (dst := some 11) hS); (· exact .mk); clear hS; intro w11 b11 hS)
    | ((with_reducible refine' Wl.out ?_; apply k_alloc (ty := 37) (dst := some 12) hS); (· exact .mk); clear hS; intro w12 b12 hS)
    | ((with_reducible refine' Wl.out ?_; apply k_alloc (ty := 45) (dst := some 19) hS); (· exact .mk); clear hS; intro w19 b19 hS)
    | ((with_reducible refine' Wl.out ?_; apply k_load hS); (· exact .mk))
    | ((with_reducible refine' Wl.out ?_; apply k_loads hS); (· exact .mk))
    | go_skip
    | ((with_reducible refine' Wl.out ?_; apply kg_load hS); iterate 2 (· exact .mk))
    | ((with_reducible refine' Wl.out ?_; apply kg_loads hS); iterate 2 (· exact .mk))
    | ((with_reducible refine' Wl.out ?_; refine' wg_case ?_ ?_) <;> (intro hgW; (try (have hg2 := hgW; simp [go_sem] at hg2)); (first | (exfalso; assumption) | ((with_reducible refine' Wl.out ?_; apply k_no hgW)) | ((with_reducible refine' Wl.out ?_; apply kg_load hS ⟨hgW⟩); (· exact .mk)) | ((with_reducible refine' Wl.out ?_; apply kg_loads hS ⟨hgW⟩); (· exact .mk))); clear hgW))
    | ((with_reducible refine' Wl.out ?_; apply k_stores hS); (· exact .mk); clear hS; intro ws hS))
                go_meet
                case rel => exact ⟨f, by rw [X2.out], by rw [X3.out]; exact HLm, by rw [X3.out] at hS ⊢; exact hS⟩
            · have X2 := Lib.hid x2; have X3 := Lib.hid x3; clear x2 x3
              obtain rfl : B = true := HBs.out.trans x1
              obtain ⟨f', hf'⟩ : ∃ f', (fun z => if z = id then none else f z) = f' := ⟨_, rfl⟩
              have HF := Lib.hid hf'
              have HLn : Hid (LinkM m59 f' L') := by show LinkM _ _ _; rw [← hf', X3.out]; exact HLm.out.del HSo.out
              have HC : Hid ((if (f id).isSome then L.length - 1 else L.length) = L'.length) := by show _ = _; rw [HB.out, x4]; rfl
              clear x1 x4 hf'
              go_wp2_with (first
    | ((with_reducible refine' Wl.out ?_; apply k_alloc (ty := 26) (dst := some 6) hS); (· exact .mk); clear hS; intro w6 b6 hS)
    | ((with_reducible refine' Wl.out ?_; apply k_alloc (ty := 34) (dst := some 10) hS); (· exact .mk); clear hS; intro w10 b10 hS)
    | ((with_reducible refine' Wl.out ?_; apply k_alloc (ty := 26) (dst := some 11) hS); (· exact .mk); clear hS; intro w11 b11 hS)
    | ((with_reducible refine' Wl.out ?_; apply k_alloc (ty := 37) (dst := some 12) hS); (· exact .mk); clear hS; intro w12 b12 hS)
    | ((with_reducible refine' Wl.out ?_; apply k_alloc (ty := 45) (dst := some 19) hS); (· exact .mk); clear hS; intro w19 b19 hS)
    | ((with_reducible refine' Wl.out ?_; apply k_load hS); (· exact .mk))
    | ((with_reducible refine' Wl.out ?_; apply k_loads hS); (· exact .mk))
    | go_skip
    | ((with_reducible refine' Wl.out ?_; apply kg_load hS); iterate 2 (· exact .mk))
    | ((with_reducible refine' Wl.out ?_; apply kg_loads hS); iterate 2 (· exact .mk))
    | ((with_reducible refine' Wl.out ?_; refine' wg_case ?_ ?_) <;> (intro hgW; (try (have hg2 := hgW; simp [go_sem] at hg2)); (first | (exfalso; assumption) | ((with_reducible refine' Wl.out ?_; apply k_no hgW)) | ((with_reducible refine' Wl.out ?_; apply kg_load hS ⟨hgW⟩); (· exact .mk)) | ((with_reducible refine' Wl.out ?_; apply kg_loads hS ⟨hgW⟩); (· exact .mk))); clear hgW))
    | ((with_reducible refine' Wl.out ?_; apply k_stores hS); (· exact .mk); clear hS; intro ws hS)
                | ((with_reducible refine' Wl.out ?_; apply wl_deleteV hS mapTV); (· exact rfl); (· exact rfl); (· exact HId.out); (· exact HF.out); (· exact HC.out); (· repeat constructor); clear hS; intro ws hS))
              go_meet
              case rel => exact ⟨f', by rw [X2.out], HLn, hS⟩
            · have X2 := Lib.hid x2; have X3 := Lib.hid x3; clear x2 x3
              obtain rfl : B = true := HBs.out.trans x1
              have HU : Hid (vecL.rd m59 [V] P59.v) := by show vecL.rd _ _ _; rw [← HV.out]; exact (HLm.out.at xg _).2
              clear x1 xg
              go_wp2_with (first
    | ((with_reducible refine' Wl.out ?_; apply k_alloc (ty := 26) (dst := some 6) hS); (· exact .mk); clear hS; intro w6 b6 hS)
    | ((with_reducible refine' Wl.out ?_; apply k_alloc (ty := 34) (dst := some 10) hS); (· exact .mk); clear hS; intro w10 b10 hS)
    | ((with_reducible refine' Wl.out ?_; apply k_alloc (ty := 26) (dst := some 11) hS); (· exact .mk); clear hS; intro w11 b11 hS)
    | ((with_reducible refine' Wl.out ?_; apply k_alloc (ty := 37) (dst := some 12) hS); (· exact .mk); clear hS; intro w12 b12 hS)
    | ((with_reducible refine' Wl.out ?_; apply k_alloc (ty := 45) (dst := some 19) hS); (· exact .mk); clear hS; intro w19 b19 hS)
    | ((with_reducible refine' Wl.out ?_; apply k_load hS); (· exact .mk))
    | ((with_reducible refine' Wl.out ?_; apply k_loads hS); (· exact .mk))
    | go_skip
    | ((with_reducible refine' Wl.out ?_; apply kg_load hS); iterate 2 (· exact .mk))
    | ((with_reducible refine' Wl.out ?_; apply kg_loads hS); iterate 2 (· exact .mk))
    | ((with_reducible refine' Wl.out ?_; refine' wg_case ?_ ?_) <;> (intro hgW; (try (have hg2 := hgW; simp [go_sem] at hg2)); (first | (exfalso; assumption) | ((with_reducible refine' Wl.out ?_; apply k_no hgW)) | ((with_reducible refine' Wl.out ?_; apply kg_load hS ⟨hgW⟩); (· exact .mk)) | ((with_reducible refine' Wl.out ?_; apply kg_loads hS ⟨hgW⟩); (· exact .mk))); clear hgW))
    | ((with_reducible refine' Wl.out ?_; apply k_stores hS); (· exact .mk); clear hS; intro ws hS)
                | (go_at_call 8; refine (r4same_t _ _ hS.inw _ _ P59.v V59.out HU.out).mono ?_; rintro e' wq ⟨_, mq, rfl, rfl, hk⟩; replace hS := hS.grow (grownBy_of_below hk.below); clear hk))
              go_meet
              case rel => exact ⟨f, by rw [X2.out], by rw [X3.out]; exact HLm, by rw [X3.out] at hS ⊢; exact hS⟩
            · have X2 := Lib.hid x2; have X3 := Lib.hid x3; clear x2 x3
              have hn : (P59.n != (L.length : Int)) = false := by simp [xn]
              clear xn
              go_wp2_with (first
    | ((with_reducible refine' Wl.out ?_; apply k_alloc (ty := 26) (dst := some 6) hS); (· exact .mk); clear hS; intro w6 b6 hS)
    | ((with_reducible refine' Wl.out ?_; apply k_alloc (ty := 34) (dst := some 10) hS); (· exact .mk); clear hS; intro w10 b10 hS)
    | ((with_reducible refine' Wl.out ?_; apply k_alloc (ty := 26) (dst := some 11) hS); (· exact .mk); clear hS; intro w11 b11 hS)
    | ((with_reducible refine' Wl.out ?_; apply k_alloc (ty := 37) (dst := some 12) hS); (· exact .mk); clear hS; intro w12 b12 hS)
    | ((with_reducible refine' Wl.out ?_; apply k_alloc (ty := 45) (dst := some 19) hS); (· exact .mk); clear hS; intro w19 b19 hS)
    | ((with_reducible refine' Wl.out ?_; apply k_load hS); (· exact .mk))
    | ((with_reducible refine' Wl.out ?_; apply k_loads hS); (· exact .mk))
    | go_skip
    | ((with_reducible refine' Wl.out ?_; apply kg_load hS); iterate 2 (· exact .mk))
    | ((with_reducible refine' Wl.out ?_; apply kg_loads hS); iterate 2 (· exact .mk))
    | ((with_reducible refine' Wl.out ?_; refine' wg_case ?_ ?_) <;> (intro hgW; (try (have hg2 := hgW; simp [go_sem] at hg2)); (first | (exfalso; assumption) | ((with_reducible refine' Wl.out ?_; apply k_no hgW)) | ((with_reducible refine' Wl.out ?_; apply kg_load hS ⟨hgW⟩); (· exact .mk)) | ((with_reducible refine' Wl.out ?_; apply kg_loads hS ⟨hgW⟩); (· exact .mk))); clear hgW))
    | ((with_reducible refine' Wl.out ?_; apply k_stores hS); (· exact .mk); clear hS; intro ws hS)
                | ((with_reducible refine' Wl.out ?_; apply wl_lenV hS mapTV); (· exact rfl); (· (repeat constructor))))
              go_meet
              case rel => exact ⟨f, by rw [X2.out], by rw [X3.out]; exact HLm, by rw [X3.out] at hS ⊢; exact hS⟩
            · have X2 := Lib.hid x2; have X3 := Lib.hid x3; clear x2 x3
              rcases xk with rfl | rfl | rfl
              all_goals
                go_wp2_with (first
    | ((with_reducible refine' Wl.out ?_; apply k_alloc (ty := 26) (dst := some 6) hS); (· exact .mk); clear hS; intro w6 b6 hS)
    | ((with_reducible refine' Wl.out ?_; apply k_alloc (ty := 34) (dst := some 10) hS); (· exact .mk); clear hS; intro w10 b10 hS)
    | ((with_reducible refine' Wl.out ?_; apply k_alloc (ty := 26) (dst := some 11) hS); (· exact .mk); clear hS; intro w11 b11 hS)
    | ((with_reducible refine' Wl.out ?_; apply k_alloc (ty := 37) (dst := some 12) hS); (· exact .mk); clear hS; intro w12 b12 hS)
    | ((with_reducible refine' Wl.out ?_; apply k_alloc (ty := 45) (dst := some 19) hS); (· exact .mk); clear hS; intro w19 b19 hS)
    | ((with_reducible refine' Wl.out ?_; apply k_load hS); (· exact .mk))
    | ((with_reducible refine' Wl.out ?_; apply k_loads hS); (· exact .mk))
    | go_skip
    | ((with_reducible refine' Wl.out ?_; apply kg_load hS); iterate 2 (· exact .mk))
    | ((with_reducible refine' Wl.out ?_; apply kg_loads hS); iterate 2 (· exact .mk))
    | ((with_reducible refine' Wl.out ?_; refine' wg_case ?_ ?_) <;> (intro hgW; (try (have hg2 := hgW; simp [go_sem] at hg2)); (first | (exfalso; assumption) | ((with_reducible refine' Wl.out ?_; apply k_no hgW)) | ((with_reducible refine' Wl.out ?_; apply kg_load hS ⟨hgW⟩); (· exact .mk)) | ((with_reducible refine' Wl.out ?_; apply kg_loads hS ⟨hgW⟩); (· exact .mk))); clear hgW))
    | ((with_reducible refine' Wl.out ?_; apply k_stores hS); (· exact .mk); clear hS; intro ws hS))
                go_meet
                case rel => exact ⟨f, by rw [X2.out], by rw [X3.out]; exact HLm, by rw [X3.out] at hS ⊢; exact hS⟩
          case rest =>
            clear hS HCs
            obtain ⟨f', rfl, HLn, hS⟩ := hcut
            have hne : (P59.e != P59.e) = false := by simp
            have hne2 : ((L'.length : Int) != L'.length) = false := by simp
            have HRow : Hid (Row itL m59 q59 L') := by obtain ⟨_, _, e, _, _, _, r⟩ := Lay.list_open R59.out; cases e; exact r
            rcases HWr.out with ⟨w1, w2⟩ | ⟨w1, w2, w3⟩ | ⟨w1, w3⟩
            all_goals
              (try have HQ : Hid ((⟨many, 1, L'⟩ : Md) = ⟨many, 1, L⟩) := (by show _ = _; rw [w3]))
              (try clear w3)
              go_wp2_with (first
    | ((with_reducible refine' Wl.out ?_; apply k_no); (· rfl))
    | ((with_reducible refine' Wl.out ?_; apply k_alloc (ty := 26) (dst := some 6) hS); (· exact .mk); clear hS; intro w6 b6 hS)
    | ((with_reducible refine' Wl.out ?_; apply k_alloc (ty := 34) (dst := some 10) hS); (· exact .mk); clear hS; intro w10 b10 hS)
    | ((with_reducible refine' Wl.out ?_; apply k_alloc (ty := 26) (dst := some 11) hS); (· exact .mk); clear hS; intro w11 b11 hS)
    | ((with_reducible refine' Wl.out ?_; apply k_alloc (ty := 37) (dst := some 12) hS); (· exact .mk); clear hS; intro w12 b12 hS)
    | ((with_reducible refine' Wl.out ?_; apply k_alloc (ty := 45) (dst := some 19) hS); (· exact .mk); clear hS; intro w19 b19 hS)
    | ((with_reducible refine' Wl.out ?_; apply k_load hS); (· exact .mk))
    | ((with_reducible refine' Wl.out ?_; apply k_loads hS); (· exact .mk))
    | go_skip
    | ((with_reducible refine' Wl.out ?_; apply kg_load hS); iterate 2 (· exact .mk))
    | ((with_reducible refine' Wl.out ?_; apply kg_loads hS); iterate 2 (· exact .mk))
    | ((with_reducible refine' Wl.out ?_; refine' wg_case ?_ ?_) <;> (intro hgW; (try (have hg2 := hgW; simp [go_sem] at hg2)); (first | (exfalso; assumption) | ((with_reducible refine' Wl.out ?_; apply k_no hgW)) | ((with_reducible refine' Wl.out ?_; apply kg_load hS ⟨hgW⟩); (· exact .mk)) | ((with_reducible refine' Wl.out ?_; apply kg_loads hS ⟨hgW⟩); (· exact .mk))); clear hgW))
    | ((with_reducible refine' Wl.out ?_; apply k_stores hS); (· exact .mk); clear hS; intro ws hS)
                | (go_at_call 9; refine (mcheck_c _ _ hS.inw q59 c59 ⟨many, 1, L'⟩ R59.out).mono ?_; rintro e' wq ⟨_, mq, rfl, rfl, hk⟩; replace hS := hS.grow (grownBy_of_below hk.below); clear hk; rw [HCk.out])
                | (go_at_call 10; refine (msame_c _ _ hS.inw q59 q c59 c ⟨many, 1, L'⟩ ⟨many, 1, L⟩ R59.out (Lay.mono _ HLE.out HRd.out) HQ.out).mono ?_; rintro e' wq ⟨_, mq, rfl, rfl, hk⟩; replace hS := hS.grow (grownBy_of_below hk.below); clear hk)
                | ((with_reducible refine' Wl.out ?_; apply wg_lenV hS mapTV); (· first | rfl | assumption | (go_simp; done)); (· exact rfl); (· (repeat constructor))))
              go_loopw [154] (fun vj wr => ∃ j : Nat, j ≤ L'.length ∧ vj = .int .i64 j ∧ St [] w (World.mem w) wr [.box b12 [.int .i64 P59.e, .slice qv59 P59.v.length cv59, .slice qh59 P59.hits.length ch59, .int .i64 P59.n], .box b11 [.int .i64 many, .int .i64 1, .slice q59 L'.length c59], .box b10 [.int .i64 kind, .int .i64 id, .int .i64 kk, .int .i64 seed, .slice qa v.length ca], .obj b44 (MapV Tryd.prog 2 .i64 L'.length f'), .box b6 [.int .i64 many, .int .i64 1, .slice q L.length c]] m59) (fun vj _ => L'.length - (intOf vj).toNat)
              case atStart => exact ⟨0, Nat.zero_le _, rfl, hS⟩
              case round =>
                clear hS
                obtain ⟨j, hj, rfl, hS⟩ := hrel
                by_cases hjl : j < L'.length
                · obtain ⟨b2, o2, qx, cx, rfl, hcx2, inx, hvx⟩ := HRow.out.itemAt j hjl
                  have hjz : (j : Int) < L'.length := by omega
                  have hgx : getM L' (L'.getD j itz).id = some (L'.getD j itz).v := by
                    have e : L'.getD j itz = L'[j] := by simp [List.getD, hjl]
                    rw [e]; exact getM_of_mem HSo'.out (List.getElem_mem hjl)
                  have hat := HLn.out.at hgx (.slice none 0 0)
                  clear hgx
                  have HIx := Lib.hid inx
                  have HVX := Lib.hid hvx
                  clear inx hvx
                  generalize L'.getD j itz = x at *
                  obtain ⟨V2, hV2⟩ : ∃ V2, (f' x.id).getD (.slice none 0 0) = V2 := ⟨_, rfl⟩
                  rw [hV2] at hat
                  have HV2 := Lib.hid hV2
                  have HB2 := Lib.hid hat.1
                  have HU2 := Lib.hid hat.2
                  clear hat hV2
                  go_wp2_with (first
    | ((with_reducible refine' Wl.out ?_; apply k_alloc (ty := 26) (dst := some 6) hS); (· exact .mk); clear hS; intro w6 b6 hS)
    | ((with_reducible refine' Wl.out ?_; apply k_alloc (ty := 34) (dst := some 10) hS); (· exact .mk); clear hS; intro w10 b10 hS)
    | ((with_reducible refine' Wl.out ?_; apply k_alloc (ty := 26) (dst := some 11) hS); (· exact .mk); clear hS; intro w11 b11 hS)
    | ((with_reducible refine' Wl.out ?_; apply k_alloc (ty := 37) (dst := some 12) hS); (· exact .mk); clear hS; intro w12 b12 hS)
    | ((with_reducible refine' Wl.out ?_; apply k_alloc (ty := 45) (dst := some 19) hS); (· exact .mk); clear hS; intro w19 b19 hS)
    | ((with_reducible refine' Wl.out ?_; apply k_load hS); (· exact .mk))
    | ((with_reducible refine' Wl.out ?_; apply k_loads hS); (· exact .mk))
    | go_skip
    | ((with_reducible refine' Wl.out ?_; apply kg_load hS); iterate 2 (· exact .mk))
    | ((with_reducible refine' Wl.out ?_; apply kg_loads hS); iterate 2 (· exact .mk))
    | ((with_reducible refine' Wl.out ?_; refine' wg_case ?_ ?_) <;> (intro hgW; (try (have hg2 := hgW; simp [go_sem] at hg2)); (first | (exfalso; assumption) | ((with_reducible refine' Wl.out ?_; apply k_no hgW)) | ((with_reducible refine' Wl.out ?_; apply kg_load hS ⟨hgW⟩); (· exact .mk)) | ((with_reducible refine' Wl.out ?_; apply kg_loads hS ⟨hgW⟩); (· exact .mk))); clear hgW))
    | ((with_reducible refine' Wl.out ?_; apply k_stores hS); (· exact .mk); clear hS; intro ws hS)
                    | ((with_reducible refine' Wl.out ?_; apply wl_lookup2V hS mapTV); (· exact rfl); (· (repeat constructor)); (· exact rfl); (· exact HIx.out); (· exact HV2.out); (· exact HB2.out))
                    | (go_at_call 8; refine (r4same_t _ _ hS.inw _ _ x.v HU2.out HVX.out).mono ?_; rintro e' wq ⟨_, mq, rfl, rfl, hk⟩; replace hS := hS.grow (grownBy_of_below hk.below); clear hk))
                  go_roundw
                  case rel => exact ⟨j + 1, hjl, by go_num, hS.forget (x := .box b19 _) (by (repeat constructor))⟩
                  case measure => simp [intOf]; omega
                · obtain rfl : j = L'.length := by omega
                  have hjz : ¬ ((L'.length : Int) < L'.length) := by omega
                  go_wp2_with (first
    | ((with_reducible refine' Wl.out ?_; apply k_alloc (ty := 26) (dst := some 6) hS); (· exact .mk); clear hS; intro w6 b6 hS)
    | ((with_reducible refine' Wl.out ?_; apply k_alloc (ty := 34) (dst := some 10) hS); (· exact .mk); clear hS; intro w10 b10 hS)
    | ((with_reducible refine' Wl.out ?_; apply k_alloc (ty := 26) (dst := some 11) hS); (· exact .mk); clear hS; intro w11 b11 hS)
    | ((with_reducible refine' Wl.out ?_; apply k_alloc (ty := 37) (dst := some 12) hS); (· exact .mk); clear hS; intro w12 b12 hS)
    | ((with_reducible refine' Wl.out ?_; apply k_alloc (ty := 45) (dst := some 19) hS); (· exact .mk); clear hS; intro w19 b19 hS)
    | ((with_reducible refine' Wl.out ?_; apply k_load hS); (· exact .mk))
    | ((with_reducible refine' Wl.out ?_; apply k_loads hS); (· exact .mk))
    | go_skip
    | ((with_reducible refine' Wl.out ?_; apply kg_load hS); iterate 2 (· exact .mk))
    | ((with_reducible refine' Wl.out ?_; apply kg_loads hS); iterate 2 (· exact .mk))
    | ((with_reducible refine' Wl.out ?_; refine' wg_case ?_ ?_) <;> (intro hgW; (try (have hg2 := hgW; simp [go_sem] at hg2)); (first | (exfalso; assumption) | ((with_reducible refine' Wl.out ?_; apply k_no hgW)) | ((with_reducible refine' Wl.out ?_; apply kg_load hS ⟨hgW⟩); (· exact .mk)) | ((with_reducible refine' Wl.out ?_; apply kg_loads hS ⟨hgW⟩); (· exact .mk))); clear hgW))
    | ((with_reducible refine' Wl.out ?_; apply k_stores hS); (· exact .mk); clear hS; intro ws hS))
                  go_roundw
                  case rel => exact ⟨k + 1, L', q59, c59, f', m59, hlt, by go_num, HOk', HLn, R59, ((hS.forget (x := .box b12 _) (by (repeat constructor))).forget (x := .box b11 _) (by (repeat constructor))).forget (x := .box b10 _) (by (repeat constructor))⟩
                  case measure => simp [intOf]; omega
    · obtain rfl : k = l.length := by omega
      have hkz : ¬ ((l.length : Int) < l.length) := by omega
      go_wp2_with (first
    | ((with_reducible refine' Wl.out ?_; apply k_alloc (ty := 26) (dst := some 6) hS); (· exact .mk); clear hS; intro w6 b6 hS)
    | ((with_reducible refine' Wl.out ?_; apply k_alloc (ty := 34) (dst := some 10) hS); (· exact .mk); clear hS; intro w10 b10 hS)
    | ((with_reducible refine' Wl.out ?_; apply k_alloc (ty := 26) (dst := some 11) hS); (· exact .mk); clear hS; intro w11 b11 hS)
    | ((with_reducible refine' Wl.out ?_; apply k_alloc (ty := 37) (dst := some 12) hS); (· exact .mk); clear hS; intro w12 b12 hS)
    | ((with_reducible refine' Wl.out ?_; apply k_alloc (ty := 45) (dst := some 19) hS); (· exact .mk); clear hS; intro w19 b19 hS)
    | ((with_reducible refine' Wl.out ?_; apply k_load hS); (· exact .mk))
    | ((with_reducible refine' Wl.out ?_; apply k_loads hS); (· exact .mk))
    | go_skip
    | ((with_reducible refine' Wl.out ?_; apply kg_load hS); iterate 2 (· exact .mk))
    | ((with_reducible refine' Wl.out ?_; apply kg_loads hS); iterate 2 (· exact .mk))
    | ((with_reducible refine' Wl.out ?_; refine' wg_case ?_ ?_) <;> (intro hgW; (try (have hg2 := hgW; simp [go_sem] at hg2)); (first | (exfalso; assumption) | ((with_reducible refine' Wl.out ?_; apply k_no hgW)) | ((with_reducible refine' Wl.out ?_; apply kg_load hS ⟨hgW⟩); (· exact .mk)) | ((with_reducible refine' Wl.out ?_; apply kg_loads hS ⟨hgW⟩); (· exact .mk))); clear hgW))
    | ((with_reducible refine' Wl.out ?_; apply k_stores hS); (· exact .mk); clear hS; intro ws hS))
      all_goals (first | (go_ret; exact ⟨rfl, hS.below⟩) | (go_ret; refine ⟨?_, hS.below⟩; simp; done))
end Go.Proofs.YtdeeclnjkjapcaaDoor
