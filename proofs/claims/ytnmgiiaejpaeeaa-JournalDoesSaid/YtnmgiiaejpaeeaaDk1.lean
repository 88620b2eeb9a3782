/- A disk in memory; contracts of disk.New, far, Check. -/
import Derived.Test.YtnmgiiaejpaeeaaProg
import Derived.Test.YtnmgiiaejpaeeaaB
import Derived.BigQuiet
import Derived.Deep.QuietTactic
import Derived.Deep.RegionHeld3
import Derived.IntWalk
namespace Go.Proofs.Ytnmgiiaejpaeeaa
set_option linter.unusedVariables false
set_option linter.unusedSimpArgs false
open Go.RowKit

structure Wr where
  (pos : Int) (b : List Int)
structure Dk where
  (dry : List Int) (wet : List Wr) (fuse : Int) (dead : Bool)
/-- The writes ws lie at p. -/
def RdW (w : World) (p : Option Addr) (ws : List Wr) : Prop :=
  0 < ws.length → ∃ b o, p = some ⟨b, o, none⟩ ∧ ∀ i x, ws[i]? = some x → w.cell? ⟨b, o + i * 2, none⟩ = some (.int .i64 x.pos) ∧
    ∃ q c, w.cell? ⟨b, o + i * 2 + 1, none⟩ = some (.slice q x.b.length c) ∧ x.b.length ≤ c ∧ c ≤ maxLen ∧ Rd .u8 w q x.b
theorem RdW.nil (w : World) (p : Option Addr) : RdW w p [] := fun h => absurd h (Nat.lt_irrefl 0)
theorem RdW.below {w w' : World} {p : Option Addr} {ws : List Wr} (h : RdW w p ws) (hb : Below w.heap.size w w') : RdW w' p ws := fun h0 => by
  obtain ⟨b, o, e, hc⟩ := h h0
  refine ⟨b, o, e, fun i x hx => ?_⟩
  obtain ⟨h1, q, c, h2, h3, h4, h5⟩ := hc i x hx
  exact ⟨cell_below hb h1, q, c, cell_below hb h2, h3, h4, h5.below hb⟩
/-- The four fields of a disk in memory: where its octets, and its writes lie. -/
structure DkAt (w : World) (p : Option Addr) (c : Nat) (q : Option Addr) (e : Nat) (d : Dk) : Prop where
  (c1 : d.dry.length ≤ c) (c2 : c ≤ maxLen) (e1 : d.wet.length ≤ e) (e2 : e ≤ maxLen) (rd : Rd .u8 w p d.dry) (rw : RdW w q d.wet)
theorem DkAt.below {w w' : World} {p : Option Addr} {c : Nat} {q : Option Addr} {e : Nat} {d : Dk} (h : DkAt w p c q e d) (hb : Below w.heap.size w w') : DkAt w' p c q e d :=
  ⟨h.c1, h.c2, h.e1, h.e2, h.rd.below hb, h.rw.below hb⟩
abbrev dkV (p : Option Addr) (c : Nat) (q : Option Addr) (e : Nat) (d : Dk) : Value := .agg #[.slice p d.dry.length c, .slice q d.wet.length e, .int .i64 d.fuse, .bool d.dead]
/-- d is read at the value v. -/
def RdDk (w : World) (v : Value) (d : Dk) : Prop := ∃ p c q e, v = dkV p c q e d ∧ DkAt w p c q e d
theorem RdDk.below {w w' : World} {v : Value} {d : Dk} (h : RdDk w v d) (hb : Below w.heap.size w w') : RdDk w' v d := by
  obtain ⟨p, c, q, e, rfl, h⟩ := h
  exact ⟨p, c, q, e, rfl, h.below hb⟩
def dk0 : Dk := ⟨[], [], 0, false⟩
theorem dk0_at (w : World) : RdDk w (.agg #[.slice none 0 0, .slice none 0 0, .int .i64 0, .bool false]) dk0 :=
  ⟨none, 0, none, 0, rfl, by simp [dk0], by simp [maxLen], by simp [dk0], by simp [maxLen], Rd.nil _ _ _, RdW.nil _ _⟩

theorem ret_bool {a b : Bool} (h : a = b) : Ending.returned (.bool a) = .returned (.bool b) := by rw [h]
theorem bel2 {w w1 w2 : World} (h1 : Below w.heap.size w w1) (h2 : Below w1.heap.size w1 w2) : Below w.heap.size w w2 := h1.trans (h2.mono h1.size)
def farD (d : Dk) (at' : Int) : Bool := decide (at' < 0 ∨ ((d.dry.length / 32 : Nat) : Int) ≤ at')
set_option maxRecDepth 100000 in
set_option maxHeartbeats 2000000 in
theorem far_any (p : Option Addr) (c : Nat) (q : Option Addr) (e : Nat) (d : Dk) (at' : Int) (w : World) (h : DkAt w p c q e d) :
    Calls Try.prog 70 #[dkV p c q e d, .int .i64 at'] w fun e' w' => e' = .returned (.bool (farD d at')) ∧ Below w.heap.size w w' := by
  have hc := Nat.le_trans h.c1 h.c2
  simp only [maxLen] at hc
  have hw : wrap64 ((d.dry.length : Int) / 32) = ((d.dry.length / 32 : Nat) : Int) := by unfold wrap64; omega
  have HW := Lib.hid hw
  clear hw h
  by_cases h0 : at' < 0
  all_goals
    go_enter Try.func70, Try.ntmps70
    go_wp2
    go_ret
    exact ⟨ret_bool (by have := HW.out; clear HW; simp_all [farD] <;> omega), below_new w _⟩

/-- Four cells of a box hold a disk. -/
structure BoxAt (w : World) (B : Nat) (p : Option Addr) (c : Nat) (q : Option Addr) (e : Nat) (d : Dk) : Prop where
  (k0 : w.cell? ⟨B, 0, none⟩ = some (.slice p d.dry.length c)) (k1 : w.cell? ⟨B, 1, none⟩ = some (.slice q d.wet.length e)) (k2 : w.cell? ⟨B, 2, none⟩ = some (.int .i64 d.fuse)) (k3 : w.cell? ⟨B, 3, none⟩ = some (.bool d.dead))
theorem BoxAt.below {w w' : World} {B : Nat} {p : Option Addr} {c : Nat} {q : Option Addr} {e : Nat} {d : Dk} (h : BoxAt w B p c q e d) (hb : Below w.heap.size w w') : BoxAt w' B p c q e d :=
  ⟨cell_below hb h.k0, cell_below hb h.k1, cell_below hb h.k2, cell_below hb h.k3⟩
def oddD (d : Dk) (x : Wr) : Bool := farD d x.pos || ((x.b.length : Int) != 32)
set_option maxRecDepth 100000 in
set_option maxHeartbeats 2000000 in
theorem odd_any (B : Nat) (p : Option Addr) (c : Nat) (q : Option Addr) (e : Nat) (d : Dk) (x : Wr) (q' : Option Addr) (c' : Nat) (w : World) (h : DkAt w p c q e d) (hB : BoxAt w B p c q e d) :
    Calls Try.prog 81 #[.agg #[.int .i64 x.pos, .slice q' x.b.length c'], .pointer (some ⟨B, 0, none⟩)] w fun e' w' => e' = .returned (.bool (oddD d x)) ∧ Below w.heap.size w w' := by
  have hb : ∀ O, BoxAt (w.alloc O) B p c q e d := fun O => hB.below (below_new w O)
  have k0 := fun O => (hb O).k0
  have k1 := fun O => (hb O).k1
  have k2 := fun O => (hb O).k2
  have k3 := fun O => (hb O).k3
  have hd : ∀ O, DkAt (w.alloc O) p c q e d := fun O => h.below (below_new w O)
  have hn : ∀ O, Below w.heap.size w (w.alloc O) := fun O => below_new w O
  have HD := Lib.hid hd
  have HN := Lib.hid hn
  clear h hB hb hd hn
  obtain ⟨F, hF⟩ : ∃ F, farD d x.pos = F := ⟨_, rfl⟩
  have ho : oddD d x = (F || ((x.b.length : Int) != 32)) := by rw [← hF]; rfl
  rw [ho]
  go_enter Try.func81, Try.ntmps81
  go_wp2_with fail
  refine (far_any p c q e d x.pos _ (HD.out _)).mono ?_
  rintro e' w1 ⟨rfl, hb0⟩
  have hb1 := bel2 (HN.out _) hb0
  rw [hF]
  have kx : w1.cell? ⟨w.heap.size, 1, none⟩ = some (.slice q' x.b.length c') := cell_below hb0 (by rw [cell_of_row _ _ _ _ _ _ (heap_alloc_new w _)]; rfl)
  clear hF HD HN k0 k1 k2 k3 hb0
  cases F
  all_goals
    go_wp2
    go_ret
    exact ⟨by first | rfl | exact ret_bool (by simp), hb1⟩
abbrev oddF (B : Nat) : Value := .func (.func 81) #[] #[.pointer (some ⟨B, 0, none⟩)]
theorem RdW.get {w : World} {b o : Nat} {ws : List Wr} (h : ∀ i x, ws[i]? = some x → w.cell? ⟨b, o + i * 2, none⟩ = some (.int .i64 x.pos) ∧
    ∃ q c, w.cell? ⟨b, o + i * 2 + 1, none⟩ = some (.slice q x.b.length c) ∧ x.b.length ≤ c ∧ c ≤ maxLen ∧ Rd .u8 w q x.b) (k : Nat) (hk : k < ws.length) : w.cell? ⟨b, o + k * 2, none⟩ = some (.int .i64 ws[k].pos) ∧
    ∃ q c, w.cell? ⟨b, o + k * 2 + 1, none⟩ = some (.slice q ws[k].b.length c) ∧ ws[k].b.length ≤ c ∧ c ≤ maxLen ∧ Rd .u8 w q ws[k].b :=
  h k ws[k] (List.getElem?_eq_getElem hk)
set_option maxRecDepth 100000 in
set_option maxHeartbeats 2000000 in
theorem index_odd (B : Nat) (p : Option Addr) (c : Nat) (q : Option Addr) (e : Nat) (d : Dk) (w : World) (h : DkAt w p c q e d) (hB : BoxAt w B p c q e d) :
    Calls Try.prog 96 #[.slice q d.wet.length e, oddF B] w fun e' w' => ∃ i, e' = .returned (.int .i64 i) ∧ (0 ≤ i ∧ i ≤ 9223372036854775807 ∧ d.wet.any (oddD d) = true ∨ i = -1 ∧ d.wet.any (oddD d) = false) ∧ Below w.heap.size w w' := by
  have hl : d.wet.length ≤ 9223372036854775807 := by have h1 := h.e1; have h2 := h.e2; simp only [maxLen] at h2; omega
  have eg := enters_of Try.func81 (by kernel_rfl) rfl
  go_enter Try.func96, Try.ntmps96
  go_wp2
  go_loopw [8] (fun i wr => ∃ k : Nat, k ≤ d.wet.length ∧ i = .int .i64 k ∧ Hid ((d.wet.take k).any (oddD d) = false) ∧ Below w.heap.size w wr) (fun i _ => d.wet.length - (intOf i).toNat)
  case atStart => exact ⟨0, Nat.zero_le _, rfl, by simp [Hid], Below.refl _ _⟩
  case round =>
    obtain ⟨k, hk, rfl, hno, hbel⟩ := hrel
    by_cases hlt : k < d.wet.length
    · obtain ⟨b, o, rfl, hc⟩ := (h.rw.below hbel) (by omega)
      obtain ⟨c0, qx, cx, c1, c2, c3, c4⟩ := RdW.get hc k hlt
      have hodd := odd_any B p c _ e d d.wet[k] qx cx wr (h.below hbel) (hB.below hbel)
      have HN : Hid ((d.wet.take (k + 1)).any (oddD d) = oddD d d.wet[k]) := by
        have := hno.out
        show _ = _
        rw [List.take_succ_eq_append_getElem hlt, List.any_append, this]; simp
      go_wp2_with fail
      refine hodd.mono ?_
      rintro e' w2 ⟨rfl, hb2⟩
      have hb := hbel.trans (hb2.mono hbel.size)
      clear hodd hbel hb2 h hB hc c0 c1 c2 c3 c4 hno
      obtain ⟨F, hF⟩ : ∃ F, F = oddD d d.wet[k] := ⟨_, rfl⟩
      rw [← hF] at HN ⊢
      have hm : d.wet.any (oddD d) = true ∨ F = false := by
        cases F with
        | false => exact .inr rfl
        | true => exact .inl (List.any_eq_true.2 ⟨_, List.getElem_mem hlt, hF.symm⟩)
      have HM := Lib.hid hm
      clear hF hm
      cases F
      · go_wp2_with fail
        go_roundw
        case rel => exact ⟨k + 1, hlt, by go_num, HN, hb⟩
        case measure => simp [intOf]; omega
      · go_wp2
        go_ret
        have := HM.out
        exact ⟨_, rfl, .inl ⟨by omega, by omega, by simpa using this⟩, hb⟩
    · obtain rfl : k = d.wet.length := by omega
      clear h hB
      go_wp2
      go_ret
      have := hno.out
      rw [List.take_length] at this
      exact ⟨_, rfl, .inr ⟨rfl, this⟩, hbel⟩
set_option maxRecDepth 100000 in
theorem contains_odd (B : Nat) (p : Option Addr) (c : Nat) (q : Option Addr) (e : Nat) (d : Dk) (w : World) (h : DkAt w p c q e d) (hB : BoxAt w B p c q e d) :
    Calls Try.prog 82 #[.slice q d.wet.length e, oddF B] w fun e' w' => e' = .returned (.bool (d.wet.any (oddD d))) ∧ Below w.heap.size w w' := by
  go_enter Try.func82, Try.ntmps82
  go_wp2_with fail
  refine (index_odd B p c q e d w h hB).mono ?_
  rintro e' w1 ⟨i, rfl, hi, hb⟩
  rcases hi with ⟨h1, h2, h3⟩ | ⟨rfl, h3⟩
  · have H3 := Lib.hid h3
    clear h3
    go_wp2
    go_ret
    exact ⟨ret_bool (by rw [H3.out]; try (simp <;> omega)), hb⟩
  · have H3 := Lib.hid h3
    clear h3
    go_wp2
    go_ret
    exact ⟨ret_bool (by rw [H3.out]; try (simp <;> omega)), hb⟩
/-- Why a disk may not be; 0: it may. -/
def checkOK (d : Dk) : Prop := 32 ≤ d.dry.length ∧ d.dry.length ≤ 262144 ∧ d.dry.length % 32 = 0 ∧ d.wet.length ≤ 8192 ∧ d.wet.any (oddD d) = false ∧ -1 ≤ d.fuse ∧ d.fuse ≤ 1073741824
instance (d : Dk) : Decidable (checkOK d) := inferInstanceAs (Decidable (_ ∧ _))
def checkE (d : Dk) : Int := if checkOK d then 0 else 1
set_option maxRecDepth 100000 in
set_option maxHeartbeats 2000000 in
theorem check_any (p : Option Addr) (c : Nat) (q : Option Addr) (e : Nat) (d : Dk) (w : World) (h : DkAt w p c q e d) :
    Calls Try.prog 40 #[dkV p c q e d] w fun e' w' => e' = .returned (.int .i64 (checkE d)) ∧ Below w.heap.size w w' := by
  have hl : d.wet.length ≤ 9223372036854775807 := by have h1 := h.e1; have h2 := h.e2; simp only [maxLen] at h2; omega
  have hl' : d.dry.length ≤ 9223372036854775807 := by have h1 := h.c1; have h2 := h.c2; simp only [maxLen] at h2; omega
  have hbox : ∀ T, BoxAt (w.alloc (.cells #[.slice p d.dry.length c, .slice q d.wet.length e, .int .i64 d.fuse, .bool d.dead] T)) w.heap.size p c q e d := fun T =>
    ⟨by rw [cell_of_row _ _ _ _ _ _ (heap_alloc_new w _)]; rfl, by rw [cell_of_row _ _ _ _ _ _ (heap_alloc_new w _)]; rfl, by rw [cell_of_row _ _ _ _ _ _ (heap_alloc_new w _)]; rfl, by rw [cell_of_row _ _ _ _ _ _ (heap_alloc_new w _)]; rfl⟩
  have hd : ∀ O, DkAt (w.alloc O) p c q e d := fun O => h.below (below_new w O)
  have hn : ∀ O, Below w.heap.size w (w.alloc O) := fun O => below_new w O
  have HX := Lib.hid hbox
  have HD := Lib.hid hd
  have HN := Lib.hid hn
  have ways : (d.dry.length < 32 ∧ checkE d = 1) ∨ (32 ≤ d.dry.length ∧ 262144 < d.dry.length ∧ checkE d = 1) ∨
      (32 ≤ d.dry.length ∧ d.dry.length ≤ 262144 ∧ (((d.dry.length : Int) % 32 != 0) = true) ∧ checkE d = 1) ∨
      (32 ≤ d.dry.length ∧ d.dry.length ≤ 262144 ∧ (((d.dry.length : Int) % 32 != 0) = false) ∧ 8192 < d.wet.length ∧ checkE d = 1) ∨
      (32 ≤ d.dry.length ∧ d.dry.length ≤ 262144 ∧ (((d.dry.length : Int) % 32 != 0) = false) ∧ d.wet.length ≤ 8192 ∧ (∃ F, d.wet.any (oddD d) = F ∧
        ((F = true ∧ checkE d = 1) ∨ (F = false ∧ d.fuse < -1 ∧ checkE d = 1) ∨ (F = false ∧ -1 ≤ d.fuse ∧ 1073741824 < d.fuse ∧ checkE d = 1) ∨ (F = false ∧ -1 ≤ d.fuse ∧ d.fuse ≤ 1073741824 ∧ checkE d = 0)))) := by
    simp only [bne_iff_ne, bne_eq_false_iff_eq]
    by_cases hc : checkOK d
    · have e1 : checkE d = 0 := if_pos hc
      obtain ⟨h1, h2, h3, h4, h5, h6, h7⟩ := hc
      refine .inr (.inr (.inr (.inr ⟨h1, h2, by omega, h4, _, h5, ?_⟩)))
      simp [h6, h7, e1]
    · have e1 : checkE d = 1 := if_neg hc
      unfold checkOK at hc
      rw [e1]
      cases hF : d.wet.any (oddD d)
      · simp only [hF, true_and, and_true] at hc ⊢
        have : ∀ X : Prop, (∃ F, false = F ∧ X) ↔ X := fun X => ⟨fun ⟨_, _, h⟩ => h, fun h => ⟨_, rfl, h⟩⟩
        simp only [exists_eq_left', Bool.false_eq_true, false_and, true_and, false_or, and_true, and_false, or_false]
        omega
      · simp only [exists_eq_left', Bool.true_eq_false, false_and, true_and, and_true, and_false, or_false]
        omega
  clear hbox hd hn
  rcases ways with ⟨h1, h2⟩ | ⟨h1, h2, h3⟩ | ⟨h1, h2, h3, h4⟩ | ⟨h1, h2, h3, h4, h5⟩ | ⟨h1, h2, h3, h4, F, hF, core⟩
  · rw [h2]; clear h2
    go_enter Try.func40, Try.ntmps40
    go_wp2
    go_ret
    exact ⟨rfl, HN.out _⟩
  · rw [h3]; clear h3
    go_enter Try.func40, Try.ntmps40
    go_wp2
    go_ret
    exact ⟨rfl, HN.out _⟩
  · rw [h4]; clear h4
    go_enter Try.func40, Try.ntmps40
    go_wp2
    go_ret
    exact ⟨rfl, HN.out _⟩
  · rw [h5]; clear h5
    go_enter Try.func40, Try.ntmps40
    go_wp2
    go_ret
    exact ⟨rfl, HN.out _⟩
  · have HF := Lib.hid hF
    clear hF
    go_enter Try.func40, Try.ntmps40
    go_wp2_with fail
    refine (contains_odd w.heap.size p c q e d _ (HD.out _) (HX.out _)).mono ?_
    rintro e' w1 ⟨rfl, hb0⟩
    have kf := ((HX.out _).below hb0).k2
    have hb1 := bel2 (HN.out _) hb0
    clear HX HD HN hb0 h
    rw [HF.out]
    rcases core with ⟨rfl, r⟩ | ⟨rfl, f1, r⟩ | ⟨rfl, f1, f2, r⟩ | ⟨rfl, f1, f2, r⟩
    all_goals
      have R := Lib.hid r
      clear r
      go_wp2
      go_ret
      exact ⟨by rw [R.out]; rfl, hb1⟩
theorem checkE_cases (d : Dk) : (checkE d = 0 ∧ checkOK d) ∨ (checkE d = 1 ∧ ¬ checkOK d) := by
  unfold checkE
  by_cases h : checkOK d
  · exact .inl ⟨if_pos h, h⟩
  · exact .inr ⟨if_neg h, h⟩
/-- Whether it may be, and does something. -/
def aliveE (d : Dk) : Int := if checkOK d then (if d.dead then 11 else 0) else 1
set_option maxRecDepth 100000 in
set_option maxHeartbeats 2000000 in
theorem alive_any (p : Option Addr) (c : Nat) (q : Option Addr) (e : Nat) (d : Dk) (w : World) (h : DkAt w p c q e d) :
    Calls Try.prog 69 #[dkV p c q e d] w fun e' w' => e' = .returned (.int .i64 (aliveE d)) ∧ Below w.heap.size w w' := by
  have hbox : ∀ T, BoxAt (w.alloc (.cells #[.slice p d.dry.length c, .slice q d.wet.length e, .int .i64 d.fuse, .bool d.dead] T)) w.heap.size p c q e d := fun T =>
    ⟨by rw [cell_of_row _ _ _ _ _ _ (heap_alloc_new w _)]; rfl, by rw [cell_of_row _ _ _ _ _ _ (heap_alloc_new w _)]; rfl, by rw [cell_of_row _ _ _ _ _ _ (heap_alloc_new w _)]; rfl, by rw [cell_of_row _ _ _ _ _ _ (heap_alloc_new w _)]; rfl⟩
  have hd : ∀ O, DkAt (w.alloc O) p c q e d := fun O => h.below (below_new w O)
  have hn : ∀ O, Below w.heap.size w (w.alloc O) := fun O => below_new w O
  have HX := Lib.hid hbox
  have HD := Lib.hid hd
  have HN := Lib.hid hn
  have ways : (checkE d = 0 ∧ ∃ F, d.dead = F ∧ ((F = true ∧ aliveE d = 11) ∨ (F = false ∧ aliveE d = 0))) ∨ (checkE d = 1 ∧ aliveE d = 1) := by
    rcases checkE_cases d with ⟨h1, h2⟩ | ⟨h1, h2⟩
    · refine .inl ⟨h1, _, rfl, ?_⟩
      cases hF : d.dead
      · exact .inr ⟨rfl, by unfold aliveE; rw [if_pos h2, hF]; rfl⟩
      · exact .inl ⟨rfl, by unfold aliveE; rw [if_pos h2, hF]; rfl⟩
    · exact .inr ⟨h1, if_neg h2⟩
  have W := Lib.hid ways
  clear hbox hd hn h ways
  go_enter Try.func69, Try.ntmps69
  go_wp2_with fail
  refine (check_any p c q e d _ (HD.out _)).mono ?_
  rintro e' w1 ⟨rfl, hb0⟩
  have kf := ((HX.out _).below hb0).k3
  have hb1 := bel2 (HN.out _) hb0
  clear HX HD HN hb0
  rcases W.out with ⟨h1, F, hF, core⟩ | ⟨h1, r⟩
  · rw [h1]
    rw [hF] at kf
    rcases core with ⟨rfl, r⟩ | ⟨rfl, r⟩
    all_goals
      have R := Lib.hid r
      clear r h1
      go_wp2
      go_ret
      exact ⟨by rw [R.out]; rfl, hb1⟩
  · rw [h1]
    have R := Lib.hid r
    clear r h1
    go_wp2
    go_ret
    exact ⟨by rw [R.out]; rfl, hb1⟩
end Go.Proofs.Ytnmgiiaejpaeeaa
