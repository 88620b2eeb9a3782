/- twist.odd, Turn. -/
import Derived.Test.YtlkdjmpkapeppaaTw1G
import Derived.Test.YtlkdjmpkapeppaaSl4G
namespace Go.Proofs.Ytlkdjmpkapeppaa
set_option linter.unusedVariables false
set_option linter.unusedSimpArgs false
open Go.RowKit Go.Shelf
set_option maxRecDepth 100000 in
set_option maxHeartbeats 4000000 in
theorem odd5_c (m : Mem) (w : World) (hm : m.In w) (x : Int) :
    Calls Try.prog 51 #[.int .i64 x] w (Ret w m fun v _ => v = .bool (decide (x < 0 ∨ 4611686018427387903 < x))) := by
  have hS := St.start hm
  by_cases h0 : x < 0
  · go_enter Try.func51, Try.ntmps51
    go_wp2_with fail
    go_ret
    exact ⟨_, m, rfl, by simp [h0], hS⟩
  · go_enter Try.func51, Try.ntmps51
    go_wp2_with fail
    go_ret
    exact ⟨_, m, rfl, by simp [h0]; intro h; omega, hS⟩
/-- A way's digit. -/
def dgT (way : Int) (i : Nat) : Nat := ((way / (2 : Int) ^ (2 * i)) % 4).toNat
theorem dgT_lt (way : Int) (i : Nat) : dgT way i < 4 := by unfold dgT; omega
theorem dg_bits {way : Int} (h0 : 0 ≤ way) (h1 : way ≤ 4611686018427387903) (i : Nat) : bits BinOp.and IntKind.i64 (way / 2 ^ (2 * i)) 3 = dgT way i := by
  have hp : (0 : Int) < 2 ^ (2 * i) := Int.pow_pos (by decide)
  have a1 : 0 ≤ way / 2 ^ (2 * i) := Int.ediv_nonneg h0 (Int.le_of_lt hp)
  have a2 : way / 2 ^ (2 * i) ≤ way := Int.ediv_le_self _ h0
  have e63 : (2 : Int) ^ 63 = 9223372036854775808 := by decide
  have h := bits_mask .i64 63 (by decide) (fun n h0 h1 => by rw [e63] at h1; exact wr64 (by omega) (by omega)) 2 (by decide) (way / 2 ^ (2 * i)) a1 (by rw [e63]; omega)
  have e : ((2 : Int) ^ 2 - 1) = 3 := by decide
  rw [e] at h
  rw [h]
  unfold dgT
  have e2 : (2 : Int) ^ 2 = 4 := by decide
  rw [e2]
  generalize way / 2 ^ (2 * i) = t at *
  omega
/-- A vector whose first pairs are turned. -/
def turnP (way : Int) (v : List Int) : Nat → List Int
  | 0 => v
  | k + 1 => if 2 * k + 1 < v.length then ((turnP way v k).set (2 * k) (v.getD (2 * k) 0 * uR (dgT way k) - v.getD (2 * k + 1) 0 * uI (dgT way k))).set (2 * k + 1) (v.getD (2 * k) 0 * uI (dgT way k) + v.getD (2 * k + 1) 0 * uR (dgT way k)) else turnP way v k
theorem turnP_stop {way : Int} {v : List Int} {k : Nat} (h : v.length ≤ 2 * k + 1) : ∀ j, k ≤ j → turnP way v j = turnP way v k
  | 0, hj => by have : k = 0 := by omega
                subst this; rfl
  | j + 1, hj => by
    by_cases e : k = j + 1
    · subst e; rfl
    · rw [← turnP_stop h j (by omega)]
      exact if_neg (by omega)
theorem turnP_len (way : Int) (v : List Int) : ∀ k, (turnP way v k).length = v.length
  | 0 => rfl
  | k + 1 => by
    unfold turnP
    split
    · rw [List.length_set, List.length_set, turnP_len way v k]
    · exact turnP_len way v k
theorem getD_set_n {l : List Int} {i k : Nat} {x : Int} : (l.set i x).getD k 0 = if k = i ∧ i < l.length then x else l.getD k 0 := by
  simp only [List.getD, List.getElem?_set]
  by_cases e : i = k
  · subst e
    by_cases h : i < l.length
    · simp [h]
    · simp [h]
  · simp [e, Ne.symm e]
theorem turnP_rest (way : Int) (v : List Int) : ∀ k j, 2 * k ≤ j → (turnP way v k).getD j 0 = v.getD j 0
  | 0, _, _ => rfl
  | k + 1, j, h => by
    unfold turnP
    split
    · rw [getD_set_n, if_neg (by omega), getD_set_n, if_neg (by omega), turnP_rest way v k j (by omega)]
    · exact turnP_rest way v k j (by omega)
theorem rot_in {x y : Int} {d : Nat} (hd : d < 4) (hx : -32767 ≤ x ∧ x ≤ 32767) (hy : -32767 ≤ y ∧ y ≤ 32767) : (-32767 ≤ x * uR d - y * uI d ∧ x * uR d - y * uI d ≤ 32767) ∧ -32767 ≤ x * uI d + y * uR d ∧ x * uI d + y * uR d ≤ 32767 := by
  have : d = 0 ∨ d = 1 ∨ d = 2 ∨ d = 3 := by omega
  rcases this with rfl | rfl | rfl | rfl <;> simp only [uR, uI] <;> omega
theorem fine_at {v : List Int} (hf : fineV v) (hi : In16 v) (k : Nat) : -32767 ≤ v.getD k 0 ∧ v.getD k 0 ≤ 32767 := by
  refine ⟨?_, (hi.at k).2⟩
  by_cases hk : k < v.length
  · have := hf.2.2 v[k] (List.getElem_mem hk)
    simpa [List.getD, hk] using this
  · have : v.getD k 0 = 0 := by simp [List.getD, Nat.le_of_not_lt hk]
    rw [this]; omega
theorem turnP_fine {way : Int} {v : List Int} (hf : fineV v) (hi : In16 v) : ∀ k, ∀ z ∈ turnP way v k, -32767 ≤ z ∧ z ≤ 32767
  | 0, z, hz => by
    obtain ⟨i, h, rfl⟩ := List.getElem_of_mem hz
    have := fine_at hf hi i
    simpa [turnP, List.getD, show i < v.length from h] using this
  | k + 1, z, hz => by
    unfold turnP at hz
    have hr := rot_in (dgT_lt way k) (fine_at hf hi (2 * k)) (fine_at hf hi (2 * k + 1))
    split at hz
    · rcases List.mem_or_eq_of_mem_set hz with hz | rfl
      · rcases List.mem_or_eq_of_mem_set hz with hz | rfl
        · exact turnP_fine hf hi k z hz
        · exact hr.1
      · exact hr.2
    · exact turnP_fine hf hi k z hz
theorem turnP_in {way : Int} {v : List Int} (hf : fineV v) (hi : In16 v) (k : Nat) : In16 (turnP way v k) := fun z hz => by
  have := turnP_fine (way := way) hf hi k z hz
  omega
def turnV (way : Int) (v : List Int) : List Int := turnP way v 31
def turnE (way : Int) (v : List Int) : Prop := fineV v ∧ 0 ≤ way ∧ way ≤ 4611686018427387903
noncomputable instance (way : Int) (v : List Int) : Decidable (turnE way v) := Classical.propDecidable _
set_option maxRecDepth 100000 in
set_option maxHeartbeats 8000000 in
theorem turn_c (m : Mem) (w : World) (hm : m.In w) (u : Value) (v : List Int) (hv : vecL.rd m [u] v) (way : Int) (hgood : turnE way v) :
    Calls Try.prog 29 #[u, .int .i64 way] w (Ret w m fun x m' => ∃ q c T, Hid (T = turnV way v) ∧ x = .tuple #[.slice q T.length c, .int .i64 0] ∧ Hid (vecL.rd m' [.slice q T.length c] T)) := by
  have hS := St.start hm
  have A0 := Lib.hid hv
  obtain ⟨pu, cu, rfl, _⟩ := Lay.list_open hv
  have HIn := Lib.hid (ints_in hv)
  have hb1 : Hid (v.length * 2 ≤ 140737488355328) := by obtain ⟨_, _, e, _, _, h3, _⟩ := hv; cases e; exact h3
  have hl64 : v.length ≤ 64 := hgood.1.2.1
  have c1 : Hid (chkV v = 0) := if_pos hgood.1
  have c2' : Hid (decide (way < 0 ∨ 4611686018427387903 < way) = false) := decide_eq_false (by have := hgood.2; omega)
  have HG := Lib.hid hgood
  clear hv hgood
  go_enter Try.func29, Try.ntmps29
  go_wp2_with (first
    | ((with_reducible refine' Wl.out ?_; apply k_load hS); (· exact .mk))
    | ((with_reducible refine' Wl.out ?_; apply k_store hS); (· exact .mk); clear hS; intro ws hS)
    | ((with_reducible refine' Wl.out ?_; apply k_storeR hS); (· exact .mk); clear hS; intro ws hS)
    | (go_at_call 50; refine (vcheck_c m _ hS.inw _ _ A0.out).mono ?_; rintro e' wq ⟨_, mq, rfl, rfl, hk⟩; replace hS := hS.grow (grownBy_of_below hk.below); clear hk; rw [c1.out])
    | (go_at_call 51; refine (odd5_c m _ hS.inw _).mono ?_; rintro e' wq ⟨_, mq, rfl, rfl, hk⟩; replace hS := hS.grow (grownBy_of_below hk.below); clear hk; rw [c2'.out])
    | (go_at_call 52; refine (vclone_c _ _ hS.inw _ A0.out).mono ?_; rintro e' w17 ⟨q17, c17, news17, rfl, hc17, hk17⟩; replace hS := hS.callOwn hk17; clear hk17; simp only [List.cons_append, List.nil_append] at hS))
  obtain ⟨rfl, hin17⟩ := ints_of hc17
  clear hc17
  go_loopw [7] (fun vi wr => ∃ k : Nat, k ≤ 31 ∧ vi = .int .i64 k ∧ St [] w m wr [.row 77 1 (.slice q17 v.length c17) v.length ((turnP way v k).map (.int .i16))] m) (fun vi _ => 31 - (intOf vi).toNat)
  case atStart => exact ⟨0, Nat.zero_le _, rfl, hS⟩
  case round =>
    clear hS
    obtain ⟨k, hk, rfl, hS⟩ := hrel
    by_cases hlt : k < 31 ∧ 2 * k + 1 < v.length
    · obtain ⟨h31, h2⟩ := hlt
      obtain ⟨g, rfl, g1, g2⟩ := row_head (hS.row 0 rfl) (by omega)
      have hT1 : ((turnP way v k).map (Value.int .i16))[2 * k]? = some (.int .i16 (v.getD (2 * k) 0)) := by
        rw [List.getElem?_map]
        have := turnP_rest way v k (2 * k) (by omega)
        have hl : 2 * k < (turnP way v k).length := by rw [turnP_len]; omega
        simp only [List.getD, List.getElem?_eq_getElem hl, Option.getD_some] at this
        rw [List.getElem?_eq_getElem hl, this]
        rfl
      have hT2 : ((turnP way v k).map (Value.int .i16))[2 * k + 1]? = some (.int .i16 (v.getD (2 * k + 1) 0)) := by
        rw [List.getElem?_map]
        have := turnP_rest way v k (2 * k + 1) (by omega)
        have hl : 2 * k + 1 < (turnP way v k).length := by rw [turnP_len]; omega
        simp only [List.getD, List.getElem?_eq_getElem hl, Option.getD_some] at this
        rw [List.getElem?_eq_getElem hl, this]
        rfl
      have hcell1 : World.mem wr ⟨g, 2 * k, none⟩ = some (.int .i16 (v.getD (2 * k) 0)) := hS.rowCell (by repeat constructor) _ _ hT1
      have hcell2 : World.mem wr ⟨g, 2 * k + 1, none⟩ = some (.int .i16 (v.getD (2 * k + 1) 0)) := hS.rowCell (by repeat constructor) _ _ hT2
      have hfine := HG.out.1
      have hx1 := HIn.out.at (2 * k)
      have hx2 : -32767 ≤ v.getD (2 * k) 0 := by
        have hl : 2 * k < v.length := by omega
        have := hfine.2.2 v[2 * k] (List.getElem_mem hl)
        simpa [List.getD, hl] using this
      have hy1 := HIn.out.at (2 * k + 1)
      have hy2 : -32767 ≤ v.getD (2 * k + 1) 0 := by
        have hl : 2 * k + 1 < v.length := by omega
        have := hfine.2.2 v[2 * k + 1] (List.getElem_mem hl)
        simpa [List.getD, hl] using this
      have hO := hS
      obtain ⟨cs, hcs⟩ : ∃ cs, (turnP way v k).map (Value.int .i16) = cs := ⟨_, rfl⟩
      have hcl : cs.length = v.length := by rw [← hcs, List.length_map, turnP_len]
      have Hcs := Lib.hid hcs
      rw [hcs] at hO
      clear hcs hT1 hT2
      obtain ⟨d, hd⟩ : ∃ d, dgT way k = d := ⟨_, rfl⟩
      have hd4 : d < 4 := by rw [← hd]; exact dgT_lt way k
      have Hd := Lib.hid hd
      clear hd
      obtain ⟨x, ex⟩ : ∃ x, v.getD (2 * k) 0 = x := ⟨_, rfl⟩
      obtain ⟨y, ey⟩ : ∃ y, v.getD (2 * k + 1) 0 = y := ⟨_, rfl⟩
      rw [ex] at hx1 hx2 hcell1
      rw [ey] at hy1 hy2 hcell2
      have HX := Lib.hid ex
      have HY := Lib.hid ey
      clear ex ey hfine
      obtain ⟨WX, hcx, HWX⟩ := run_i2f (P := Try.prog) (s := 77) (t := 95) Try.underlying77 Try.underlying95 (n := x) (by omega)
      obtain ⟨WY, hcy, HWY⟩ := run_i2f (P := Try.prog) (s := 77) (t := 95) Try.underlying77 Try.underlying95 (n := y) (by omega)
      have hu : -1 ≤ uR d ∧ uR d ≤ 1 ∧ -1 ≤ uI d ∧ uI d ≤ 1 := by
        have : d = 0 ∨ d = 1 ∨ d = 2 ∨ d = 3 := by omega
        rcases this with rfl | rfl | rfl | rfl <;> decide
      obtain ⟨E, F, hmul, HE, HF⟩ := run_cmul (P := Try.prog) 94 HWX HWY (isW_unit d hd4).1 (isW_unit d hd4).2 ⟨by omega, by omega⟩ ⟨by omega, by omega⟩ ⟨hu.1, hu.2.1⟩ ⟨hu.2.2.1, hu.2.2.2⟩
      have hX' : -32768 ≤ x * uR d - y * uI d ∧ x * uR d - y * uI d ≤ 32767 := by
        have : d = 0 ∨ d = 1 ∨ d = 2 ∨ d = 3 := by omega
        rcases this with rfl | rfl | rfl | rfl <;> simp only [uR, uI] <;> omega
      have hY' : -32768 ≤ x * uI d + y * uR d ∧ x * uI d + y * uR d ≤ 32767 := by
        have : d = 0 ∨ d = 1 ∨ d = 2 ∨ d = 3 := by omega
        rcases this with rfl | rfl | rfl | rfl <;> simp only [uR, uI] <;> omega
      have hcr := fun w => run_f2i (P := Try.prog) (s := 95) (t := 77) Try.underlying95 Try.underlying77 HE hX' w
      have hci := fun w => run_f2i (P := Try.prog) (s := 95) (t := 77) Try.underlying95 Try.underlying77 HF hY' w
      have HStep : Hid (2 * k + 1 < v.length) := h2
      have z1 : IntKind.i64.wrap ((2 : Int) * k) = 2 * k := wr64 (by omega) (by omega)
      have z2 : IntKind.i64.wrap ((2 : Int) * k + 1) = 2 * k + 1 := wr64 (by omega) (by omega)
      have n1 : ((2 : Int) * k).toNat = 2 * k := by omega
      have n2 : ((2 : Int) * k + 1).toNat = 2 * k + 1 := by omega
      have hk31 : (k : Int) < 31 := by omega
      have h2z : (2 : Int) * k + 1 < v.length := by omega
      have h2y : (2 : Int) * k < v.length := by omega
      have h0y : (0 : Int) ≤ 2 * k := by omega
      have h0z : (0 : Int) ≤ 2 * k + 1 := by omega
      obtain ⟨X', eX⟩ : ∃ X', x * uR d - y * uI d = X' := ⟨_, rfl⟩
      obtain ⟨Y', eY⟩ : ∃ Y', x * uI d + y * uR d = Y' := ⟨_, rfl⟩
      rw [eX] at hcr
      rw [eY] at hci
      have HX' := Lib.hid eX
      have HY' := Lib.hid eY
      obtain ⟨UR, eUR⟩ : ∃ UR, wR d = UR := ⟨_, rfl⟩
      obtain ⟨UI, eUI⟩ : ∃ UI, wI d = UI := ⟨_, rfl⟩
      rw [eUR, eUI] at hmul
      have HUR := Lib.hid eUR
      have HUI := Lib.hid eUI
      clear eX eY hX' hY' HE HF hu HWX HWY hx1 hx2 hy1 hy2 hS eUR eUI h2 h31
      have hre := fun ats ty w => real_run (P := Try.prog) ats ty E F w
      have him := fun ats ty w => imag_run (P := Try.prog) ats ty E F w
      have hS := St.start (World.mem_in wr)
      have hdb : bits BinOp.and IntKind.i64 (way / 2 ^ (2 * k)) 3 = (d : Int) := by rw [dg_bits HG.out.2.1 HG.out.2.2, Hd.out]
      go_wp2_with (first
    | ((with_reducible refine' Wl.out ?_; apply k_load hS); (· exact .mk))
    | ((with_reducible refine' Wl.out ?_; apply k_store hS); (· exact .mk); clear hS; intro ws hS)
    | ((with_reducible refine' Wl.out ?_; apply k_storeR hS); (· exact .mk); clear hS; intro ws hS))
      replace hS := hS.drew
      refine startL (S := Sx _ []) (by kernel_rfl) hS.sx0 (fun _ _ _ _ => trivial) (fun hHeld => ?_)
      focus (refine takeN 0 (v := ?_) rfl (by kernel_rfl) ?_ ?_; rotate_left; focus (intro w hSw; clear hSw; go_simp; try with_reducible rfl))
      try simp only [Act.put, nz1, nz2, nz3]
      focus (refine takeN 1 (v := ?_) rfl (by kernel_rfl) ?_ ?_; rotate_left; focus (intro w hSw; clear hSw; go_simp; try with_reducible rfl))
      try simp only [Act.put, nz1, nz2, nz3]
      focus (refine takeN 2 (v := ?_) rfl (by kernel_rfl) ?_ ?_; rotate_left; focus (intro w hSw; clear hSw; go_simp; try with_reducible rfl))
      try simp only [Act.put, nz1, nz2, nz3]
      focus (refine takeN 3 (v := ?_) rfl (by kernel_rfl) ?_ ?_; rotate_left; focus (intro w hSw; clear hSw; go_simp; try with_reducible rfl))
      try simp only [Act.put, nz1, nz2, nz3]
      refine takeN 4 rfl (by kernel_rfl) (yield_load rfl Try.underlying77 rfl rfl (by (first | (apply FindX.box; (· (repeat constructor)); rfl) | exact FindX.mem (by assumption)))) ?_
      try simp only [Act.put, nz1, nz2, nz3]
      focus (refine takeN 5 (v := ?_) rfl (by kernel_rfl) ?_ ?_; rotate_left; focus (intro w hSw; clear hSw; go_simp; try with_reducible rfl))
      try simp only [Act.put, nz1, nz2, nz3]
      focus (refine takeN 6 (v := ?_) rfl (by kernel_rfl) ?_ ?_; rotate_left; focus (intro w hSw; clear hSw; go_simp; try with_reducible rfl))
      try simp only [Act.put, nz1, nz2, nz3]
      focus (refine takeN 7 (v := ?_) rfl (by kernel_rfl) ?_ ?_; rotate_left; focus (intro w hSw; clear hSw; go_simp; try with_reducible rfl))
      try simp only [Act.put, nz1, nz2, nz3]
      focus (refine takeN 8 (v := ?_) rfl (by kernel_rfl) ?_ ?_; rotate_left; focus (intro w hSw; clear hSw; go_simp; try with_reducible rfl))
      try simp only [Act.put, nz1, nz2, nz3]
      focus (refine takeN 9 (v := ?_) rfl (by kernel_rfl) ?_ ?_; rotate_left; focus (intro w hSw; clear hSw; go_simp; try with_reducible rfl))
      try simp only [Act.put, nz1, nz2, nz3]
      focus (refine takeN 10 (v := ?_) rfl (by kernel_rfl) ?_ ?_; rotate_left; focus (intro w hSw; clear hSw; go_simp; try with_reducible rfl))
      try simp only [Act.put, nz1, nz2, nz3]
      refine takeN 11 rfl (by kernel_rfl) (yield_load rfl Try.underlying77 rfl rfl (by (first | (apply FindX.box; (· (repeat constructor)); rfl) | exact FindX.mem (by assumption)))) ?_
      try simp only [Act.put, nz1, nz2, nz3]
      focus (refine takeN 12 (v := ?_) rfl (by kernel_rfl) ?_ ?_; rotate_left; focus (intro w hSw; clear hSw; go_simp; try with_reducible rfl))
      try simp only [Act.put, nz1, nz2, nz3]
      refine takeN 13 rfl (by kernel_rfl) (yield_cplx rfl rfl rfl) ?_
      try simp only [Act.put, nz1, nz2, nz3]
      focus (refine takeN 14 (v := ?_) rfl (by kernel_rfl) ?_ ?_; rotate_left; focus (intro w hSw; clear hSw; go_simp; try with_reducible rfl))
      try simp only [Act.put, nz1, nz2, nz3]
      focus (refine takeN 15 (v := ?_) rfl (by kernel_rfl) ?_ ?_; rotate_left; focus (intro w hSw; clear hSw; go_simp; try with_reducible rfl))
      try simp only [Act.put, nz1, nz2, nz3]
      focus (refine takeN 16 (v := ?_) rfl (by kernel_rfl) ?_ ?_; rotate_left; focus (intro w hSw; clear hSw; go_simp; try with_reducible rfl))
      try simp only [Act.put, nz1, nz2, nz3]
      focus (refine takeN 17 (v := ?_) rfl (by kernel_rfl) ?_ ?_; rotate_left; focus (intro w hSw; clear hSw; go_simp; try with_reducible rfl))
      try simp only [Act.put, nz1, nz2, nz3]
      focus (refine takeN 18 (v := ?_) rfl (by kernel_rfl) ?_ ?_; rotate_left; focus (intro w hSw; clear hSw; go_simp; try with_reducible rfl))
      try simp only [Act.put, nz1, nz2, nz3]
      refine wpAnyH_ready (rs := [19]) (by kernel_rfl) (by simp) ?_
      refine consL 19 rfl (fun K hK => ?_) AllReadyH.nil
      rw [if_pos (by rfl)]; go_simp; refine (unit_c _ _ hS.inw d hd4).mono ?_; rintro e' w49 ⟨_, m49, rfl, hv49, hk⟩; replace hS := hS.grow (grownBy_of_below hk.below); have hle := hS.leSelf; clear hk; rw [HUR.out, HUI.out] at hv49; subst hv49; go_wp2_with fail
      refine hK.out _ _ (by first | exact hS.sx0 | exact Sx.le (by assumption) hS.sx0) (fun hHeld => ?_)
      clear hK K
      try simp only [Act.put, nz1, nz2, nz3]
      focus (refine takeN 20 (v := ?_) rfl (by kernel_rfl) ?_ ?_; rotate_left; focus (intro w hSw; clear hSw; go_simp; try with_reducible rfl))
      try simp only [Act.put, nz1, nz2, nz3]
      focus (refine takeN 21 (v := ?_) rfl (by kernel_rfl) ?_ ?_; rotate_left; focus (intro w hSw; clear hSw; go_simp; try with_reducible rfl))
      try simp only [Act.put, nz1, nz2, nz3]
      refine wpAnyH_done (by kernel_rfl) ?_ _
      refine NoPanic.normal ?_
      have hB := hS.below
      have hO2 := hO.grow (grownBy_of_below hB)
      clear hS hO
      have hS := hO2
      clear hO2 hB hcell1 hcell2
      go_wp2_with (first
    | ((with_reducible refine' Wl.out ?_; apply k_storeR hS); (· exact .mk); clear hS; intro ws hS)
    | ((with_reducible refine' Wl.out ?_; apply k_load hS); (· exact .mk))
    | ((with_reducible refine' Wl.out ?_; apply k_store hS); (· exact .mk); clear hS; intro ws hS)
    | ((with_reducible refine' Wl.out ?_; apply k_storeR hS); (· exact .mk); clear hS; intro ws hS))
      go_roundw
      case rel =>
        have e : turnP way v (k + 1) = ((turnP way v k).set (2 * k) X').set (2 * k + 1) Y' := by
          rw [show turnP way v (k + 1) = _ from if_pos HStep.out, Hd.out, HX.out, HY.out, HX'.out, HY'.out]
        exact ⟨k + 1, by omega, by go_num, by rw [e, List.map_set, List.map_set, Hcs.out]; exact hS⟩
      case measure => simp [intOf]; omega
    · have HStop : Hid (turnP way v k = turnV way v) := by
        show _ = _
        unfold turnV
        by_cases h : k < 31
        · exact (turnP_stop (by omega) 31 hk).symm
        · have : k = 31 := by omega
          rw [this]
      have hii : ∀ z ∈ turnV way v, InK .i16 z := fun z hz => by
        have := turnP_in (way := way) HG.out.1 HIn.out 31 z hz
        simp [InK, IntKind.min, IntKind.max, IntKind.signed, IntKind.bits]; omega
      have z1 : IntKind.i64.wrap ((2 : Int) * k) = 2 * k := wr64 (by omega) (by omega)
      have z2 : IntKind.i64.wrap ((2 : Int) * k + 1) = 2 * k + 1 := wr64 (by omega) (by omega)
      have hcond : ¬ ((k : Int) < 31) ∨ (k : Int) < 31 ∧ ¬ ((2 : Int) * k + 1 < v.length) := by omega
      rw [HStop.out] at hS
      have hTl : (turnV way v).length = v.length := turnP_len way v 31
      obtain ⟨T, hT⟩ : ∃ T, T = turnV way v := ⟨_, rfl⟩
      rw [← hT] at hS hTl hii
      have HII := Lib.hid hii
      have HTl := Lib.hid hTl
      have HT := Lib.hid hT
      clear hii hTl hlt hk hT HStop
      rcases hcond with h1 | ⟨h1, h2⟩
      all_goals
        go_wp2_with (first
    | ((with_reducible refine' Wl.out ?_; apply k_load hS); (· exact .mk))
    | ((with_reducible refine' Wl.out ?_; apply k_store hS); (· exact .mk); clear hS; intro ws hS)
    | ((with_reducible refine' Wl.out ?_; apply k_storeR hS); (· exact .mk); clear hS; intro ws hS))
        go_ret2
        obtain ⟨m3, hS3, hle3, hrd3⟩ := St.settleRow' (L := Lay.int .i16) (xs := T) hS 0 HTl.out rfl (of_ints HII.out) (by rw [HTl.out]; exact hb1.out)
        exact ⟨_, m3, rfl, ⟨q17, c17, T, HT, by rw [HTl.out]; rfl, by rw [HTl.out]; exact hrd3⟩, hS3⟩
set_option maxRecDepth 100000 in
set_option maxHeartbeats 8000000 in
theorem turn_bad (m : Mem) (w : World) (hm : m.In w) (u : Value) (v : List Int) (hv : vecL.rd m [u] v) (way : Int) (hbad : ¬ turnE way v) :
    Calls Try.prog 29 #[u, .int .i64 way] w (Ret w m fun x m' => x = .tuple #[.slice none 0 0, .int .i64 1]) := by
  have hS := St.start hm
  have A0 := Lib.hid hv
  obtain ⟨pu, cu, rfl, _⟩ := Lay.list_open hv
  clear hv
  by_cases hf : fineV v
  · have c1 : Hid (chkV v = 0) := if_pos hf
    have c2' : Hid (decide (way < 0 ∨ 4611686018427387903 < way) = true) := decide_eq_true (by
      rcases Classical.em (way < 0 ∨ 4611686018427387903 < way) with h | h
      · exact h
      · exact absurd ⟨hf, by omega, by omega⟩ hbad)
    clear hbad hf
    go_enter Try.func29, Try.ntmps29
    go_wp2_with (first
    | ((with_reducible refine' Wl.out ?_; apply k_load hS); (· exact .mk))
    | ((with_reducible refine' Wl.out ?_; apply k_store hS); (· exact .mk); clear hS; intro ws hS)
    | ((with_reducible refine' Wl.out ?_; apply k_storeR hS); (· exact .mk); clear hS; intro ws hS)
      | (go_at_call 50; refine (vcheck_c m _ hS.inw _ _ A0.out).mono ?_; rintro e' wq ⟨_, mq, rfl, rfl, hk⟩; replace hS := hS.grow (grownBy_of_below hk.below); clear hk; rw [c1.out])
      | (go_at_call 51; refine (odd5_c m _ hS.inw _).mono ?_; rintro e' wq ⟨_, mq, rfl, rfl, hk⟩; replace hS := hS.grow (grownBy_of_below hk.below); clear hk; rw [c2'.out]))
    go_ret2
    exact ⟨_, m, rfl, rfl, hS⟩
  · have c1 : Hid (chkV v = 1) := if_neg hf
    clear hbad hf
    go_enter Try.func29, Try.ntmps29
    go_wp2_with (first
    | ((with_reducible refine' Wl.out ?_; apply k_load hS); (· exact .mk))
    | ((with_reducible refine' Wl.out ?_; apply k_store hS); (· exact .mk); clear hS; intro ws hS)
    | ((with_reducible refine' Wl.out ?_; apply k_storeR hS); (· exact .mk); clear hS; intro ws hS)
      | (go_at_call 50; refine (vcheck_c m _ hS.inw _ _ A0.out).mono ?_; rintro e' wq ⟨_, mq, rfl, rfl, hk⟩; replace hS := hS.grow (grownBy_of_below hk.below); clear hk; rw [c1.out]))
    go_ret2
    exact ⟨_, m, rfl, rfl, hS⟩
noncomputable def turnI (way : Int) (v : List Int) : Int := if turnE way v then 0 else 1
noncomputable def turnR (way : Int) (v : List Int) : List Int := if turnE way v then turnV way v else []
theorem turn_v (m : Mem) (w : World) (hm : m.In w) (u : Value) (v : List Int) (hv : vecL.rd m [u] v) (way : Int) :
    Calls Try.prog 29 #[u, .int .i64 way] w (Ret w m fun x m' => ∃ q c T E, Hid (T = turnR way v) ∧ Hid (E = turnI way v) ∧ x = .tuple #[.slice q T.length c, .int .i64 E] ∧ Hid (vecL.rd m' [.slice q T.length c] T)) := by
  by_cases h : turnE way v
  · refine (turn_c m w hm u v hv way h).mono ?_
    rintro e w' ⟨x, m', h1, ⟨q, c, T, h2, h3, h4⟩, h5⟩
    exact ⟨x, m', h1, ⟨q, c, T, 0, h2.out.trans (if_pos h).symm, (if_pos h).symm, h3, h4⟩, h5⟩
  · refine (turn_bad m w hm u v hv way h).mono ?_
    rintro e w' ⟨x, m', h1, h2, h5⟩
    exact ⟨x, m', h1, ⟨none, 0, [], 1, (if_neg h).symm, (if_neg h).symm, h2, Lay.nil_rd _ _⟩, h5⟩
end Go.Proofs.Ytlkdjmpkapeppaa
