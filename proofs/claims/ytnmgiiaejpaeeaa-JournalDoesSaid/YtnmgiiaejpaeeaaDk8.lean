/- Contract of disk.Write. -/
import Derived.Test.YtnmgiiaejpaeeaaDk7
namespace Go.Proofs.Ytnmgiiaejpaeeaa
set_option linter.unusedVariables false
set_option linter.unusedSimpArgs false
open Go.RowKit
/-- Why nothing is written; 0: it is. -/
def writeE0 (d : Dk) (k : Int) (m : Nat) : Int := if ¬ checkOK d ∨ m ≠ 32 then 1 else if d.dead then 11 else if farD d k then 5 else if d.wet.length = 8192 then 7 else 0
def writeE (d : Dk) (k : Int) (b : List Int) : Int := if writeE0 d k b.length = 0 then deedE d else writeE0 d k b.length
def writeD (d : Dk) (k : Int) (b : List Int) : Dk := if writeE0 d k b.length = 0 then deedD (writeAct k b) d else dk0
theorem box_four (w : World) (a b c d : List Value) (t u v x : TypeId) : BoxOf ((((w.alloc (.cells a.toArray t)).alloc (.cells b.toArray u)).alloc (.cells c.toArray v)).alloc (.cells d.toArray x)) w.heap.size a ∧ BoxOf ((((w.alloc (.cells a.toArray t)).alloc (.cells b.toArray u)).alloc (.cells c.toArray v)).alloc (.cells d.toArray x)) (w.heap.size + 1) b ∧ BoxOf ((((w.alloc (.cells a.toArray t)).alloc (.cells b.toArray u)).alloc (.cells c.toArray v)).alloc (.cells d.toArray x)) (w.heap.size + 2) c ∧ BoxOf ((((w.alloc (.cells a.toArray t)).alloc (.cells b.toArray u)).alloc (.cells c.toArray v)).alloc (.cells d.toArray x)) (w.heap.size + 3) d := by
  have h2 := box_two' w a b t u
  have h3 := BoxOf.new ((w.alloc (.cells a.toArray t)).alloc (.cells b.toArray u)) c v
  have h4 := BoxOf.new (((w.alloc (.cells a.toArray t)).alloc (.cells b.toArray u)).alloc (.cells c.toArray v)) d x
  rw [size_alloc, size_alloc] at h3
  rw [size_alloc, size_alloc, size_alloc] at h4
  exact ⟨(h2.1.alloc _).alloc _, (h2.2.alloc _).alloc _, h3.alloc _, h4⟩
set_option maxRecDepth 100000 in
set_option maxHeartbeats 4000000 in
theorem write_any (p : Option Addr) (c : Nat) (q : Option Addr) (e : Nat) (d : Dk) (k : Int) (pb : Option Addr) (cb : Nat) (b : List Int) (w : World) (h : DkAt w p c q e d) (rb : Rd .u8 w pb b) (hcb : b.length ≤ cb) (hmb : cb ≤ maxLen) :
    Calls Try.prog 35 #[dkV p c q e d, .int .i64 k, .slice pb b.length cb] w fun e' w' => ∃ v, e' = .returned (.tuple #[v, .int .i64 (writeE d k b)]) ∧ NewDk w' w.heap.size v (writeD d k b) ∧ Below w.heap.size w w' := by
  have hW : ∀ O1 O2 O3 O4, Below w.heap.size w ((((w.alloc O1).alloc O2).alloc O3).alloc O4) := fun O1 O2 O3 O4 => (((below_new w O1).alloc (by simp) O2).alloc (by simp; omega) O3).alloc (by simp; omega) O4
  have HW := Lib.hid hW
  have H := Lib.hid h
  have RB := Lib.hid rb
  have hbm : b.length ≤ 9223372036854775807 := by simp only [maxLen] at hmb; omega
  clear h hW rb
  go_enter Try.func35, Try.ntmps35
  go_wp2_with fail
  refine (alive_any p c q e d _ (H.out.below (HW.out _ _ _ _))).mono ?_
  rintro e' w2 ⟨rfl, hb2⟩
  have hs : ((((w.alloc (.cells #[.slice p d.dry.length c, .slice q d.wet.length e, .int .i64 d.fuse, .bool d.dead] 44)).alloc (.cells #[.int .i64 k] 3)).alloc (.cells #[.slice pb b.length cb] 22)).alloc (.cells #[.slice none 0 0, .slice none 0 0, .int .i64 0, .bool false] 44)).heap.size = w.heap.size + 4 := by simp
  have hbb : Below w.heap.size w w2 := bel2 (HW.out _ _ _ _) hb2
  have hs2 := hb2.size
  rw [hs] at hs2
  have b3 := box_four w [.slice p d.dry.length c, .slice q d.wet.length e, .int .i64 d.fuse, .bool d.dead] [.int .i64 k] [.slice pb b.length cb] [.slice none 0 0, .slice none 0 0, .int .i64 0, .bool false] 44 3 22 44
  have B1 := Lib.hid (b3.1.below hb2)
  have B2 := Lib.hid (b3.2.1.below hb2)
  have B3 := Lib.hid (b3.2.2.1.below hb2)
  have B4 := Lib.hid (b3.2.2.2.below hb2)
  have BB := Lib.hid hbb
  clear b3 hbb hb2 hs
  have ways : (aliveE d = 1 ∧ writeE0 d k b.length = 1) ∨ (aliveE d ≠ 1 ∧ ((b.length : Int) != 32) = true ∧ writeE0 d k b.length = 1) ∨
      (aliveE d = 11 ∧ ((b.length : Int) != 32) = false ∧ writeE0 d k b.length = 11) ∨
      (aliveE d = 0 ∧ checkOK d ∧ ((b.length : Int) != 32) = false ∧ ∃ F, farD d k = F ∧ ((F = true ∧ writeE0 d k b.length = 5) ∨ (F = false ∧ ((d.wet.length : Int) == 8192) = true ∧ writeE0 d k b.length = 7) ∨ (F = false ∧ ((d.wet.length : Int) == 8192) = false ∧ writeE0 d k b.length = 0))) := by
    simp only [bne_iff_ne, bne_eq_false_iff_eq, beq_iff_eq, beq_eq_false_iff_ne]
    unfold aliveE writeE0
    by_cases hc : checkOK d
    · by_cases hl : b.length = 32
      · have hl' : (b.length : Int) = 32 := by omega
        rw [if_neg (show ¬ (¬ checkOK d ∨ b.length ≠ 32) from by rintro (h | h); exact h hc; exact h hl), if_pos hc]
        cases hd : d.dead
        · right; right; right
          refine ⟨rfl, hc, hl', _, rfl, ?_⟩
          cases hf : farD d k
          · by_cases h8 : d.wet.length = 8192
            · exact .inr (.inl ⟨rfl, by omega, by simp [h8]⟩)
            · exact .inr (.inr ⟨rfl, by omega, by simp [h8]⟩)
          · exact .inl ⟨rfl, by simp⟩
        · exact .inr (.inr (.inl ⟨rfl, hl', rfl⟩))
      · refine .inr (.inl ⟨?_, by omega, if_pos (.inr hl)⟩)
        rw [if_pos hc]; split <;> omega
    · exact .inl ⟨if_neg hc, if_pos (.inl hc)⟩
  have zero : ∀ w5, Below w.heap.size w w5 → writeE0 d k b.length ≠ 0 → NewDk w5 w.heap.size (.agg #[.slice none 0 0, .slice none 0 0, .int .i64 0, .bool false]) (writeD d k b) ∧ writeE d k b = writeE0 d k b.length := fun w5 _ hn => by
    unfold writeD writeE
    rw [if_neg hn, if_neg hn]
    exact ⟨NewDk.zero _ _, rfl⟩
  have ZZ := Lib.hid zero
  clear zero
  rcases ways with ⟨h1, h2⟩ | ⟨h1, h2, h3⟩ | ⟨h1, h2, h3⟩ | ⟨h1, hok, h2, F, hF, core⟩
  · have W2 := Lib.hid h2
    rw [h1]
    clear h1 h2
    go_wp2_with (refine wpList_store_box rfl 44 (.tmp 6) (.tmp 19) (by rfl) (w.heap.size + 3) [.slice none 0 0, .slice none 0 0, .int .i64 0, .bool false] _ (by rfl) (by rfl) B4.out (by kernel_rfl) rfl (by simp [Value.oneCell']) ?_; intro w5 x2 g2)
    refine ret_disk_tmp rfl rfl x2 rfl ?_
    have b5 := BB.out.grown g2 BB.out.size (fun k hk => by have := Option.some.inj hk; omega)
    have z := ZZ.out w5 b5 (by rw [W2.out]; decide)
    exact ⟨_, by rw [z.2, W2.out]; rfl, z.1, b5⟩
  · have W2 := Lib.hid h3
    have W1 : (aliveE d == 1) = false := by rw [beq_eq_false_iff_ne]; exact h1
    have B3k := (B3.out.get 0 _ rfl).1
    generalize aliveE d = A at *
    clear h1 h3
    go_wp2_with (refine wpList_store_box rfl 44 (.tmp 6) (.tmp 19) (by rfl) (w.heap.size + 3) [.slice none 0 0, .slice none 0 0, .int .i64 0, .bool false] _ (by rfl) (by rfl) B4.out (by kernel_rfl) rfl (by simp [Value.oneCell']) ?_; intro w5 x2 g2)
    refine ret_disk_tmp rfl rfl x2 rfl ?_
    have b5 := BB.out.grown g2 BB.out.size (fun k hk => by have := Option.some.inj hk; omega)
    have z := ZZ.out w5 b5 (by rw [W2.out]; decide)
    exact ⟨_, by rw [z.2, W2.out]; rfl, z.1, b5⟩
  · have W2 := Lib.hid h3
    have B3k := (B3.out.get 0 _ rfl).1
    rw [h1]
    clear h1 h3
    go_wp2_with (refine wpList_store_box rfl 44 (.tmp 6) (.tmp 23) (by rfl) (w.heap.size + 3) [.slice none 0 0, .slice none 0 0, .int .i64 0, .bool false] _ (by rfl) (by rfl) B4.out (by kernel_rfl) rfl (by simp [Value.oneCell']) ?_; intro w5 x2 g2)
    refine ret_disk_tmp rfl rfl x2 rfl ?_
    have b5 := BB.out.grown g2 BB.out.size (fun k hk => by have := Option.some.inj hk; omega)
    have z := ZZ.out w5 b5 (by rw [W2.out]; decide)
    exact ⟨_, by rw [z.2, W2.out]; rfl, z.1, b5⟩
  · have B3k := (B3.out.get 0 _ rfl).1
    have B2k := (B2.out.get 0 _ rfl).1
    have HF := Lib.hid hF
    have HOK := Lib.hid hok
    have W0 := Lib.hid h1
    rw [h1]
    clear h1 hF hok
    rcases core with ⟨rfl, h3⟩ | ⟨rfl, h4, h3⟩ | ⟨rfl, h4, h3⟩
    · have W2 := Lib.hid h3
      clear h3
      go_wp2_with (first
      | (refine wpList_store_box rfl 44 (.tmp 6) (.tmp 29) (by rfl) (w.heap.size + 3) [.slice none 0 0, .slice none 0 0, .int .i64 0, .bool false] _ (by rfl) (by rfl) y4 (by kernel_rfl) rfl (by simp [Value.oneCell']) ?_; intro w5 x2 g2)
      | (refine wpList_load_box rfl 44 (.tmp 3) (by rfl) w.heap.size [.slice p d.dry.length c, .slice q d.wet.length e, .int .i64 d.fuse, .bool d.dead] (by rfl) (by first | exact B1.out | exact y1) _ Try.underlying44 rfl (by kernel_rfl) ?_)
      | (go_at_call 70; refine (far_any p c q e d k w2 (H.out.below BB.out)).mono ?_; rintro e' w3 ⟨rfl, hb3⟩; rw [HF.out]; have y1 := B1.out.below hb3; have y2 := B2.out.below hb3; have y3 := B3.out.below hb3; have y4 := B4.out.below hb3; have b3 := bel2 BB.out hb3; have k1 := (y1.get 1 _ rfl).1))
      refine ret_disk_tmp rfl rfl x2 rfl ?_
      have b5 := b3.grown g2 b3.size (fun k hk => by have := Option.some.inj hk; omega)
      have z := ZZ.out w5 b5 (by rw [W2.out]; decide)
      exact ⟨_, by rw [z.2, W2.out]; rfl, z.1, b5⟩
    · have W2 := Lib.hid h3
      clear h3
      go_wp2_with (first
      | (refine wpList_store_box rfl 44 (.tmp 6) (.tmp 35) (by rfl) (w.heap.size + 3) [.slice none 0 0, .slice none 0 0, .int .i64 0, .bool false] _ (by rfl) (by rfl) y4 (by kernel_rfl) rfl (by simp [Value.oneCell']) ?_; intro w5 x2 g2)
      | (refine wpList_load_box rfl 44 (.tmp 3) (by rfl) w.heap.size [.slice p d.dry.length c, .slice q d.wet.length e, .int .i64 d.fuse, .bool d.dead] (by rfl) (by first | exact B1.out | exact y1) _ Try.underlying44 rfl (by kernel_rfl) ?_)
      | (go_at_call 70; refine (far_any p c q e d k w2 (H.out.below BB.out)).mono ?_; rintro e' w3 ⟨rfl, hb3⟩; rw [HF.out]; have y1 := B1.out.below hb3; have y2 := B2.out.below hb3; have y3 := B3.out.below hb3; have y4 := B4.out.below hb3; have b3 := bel2 BB.out hb3; have k1 := (y1.get 1 _ rfl).1))
      refine ret_disk_tmp rfl rfl x2 rfl ?_
      have b5 := b3.grown g2 b3.size (fun k hk => by have := Option.some.inj hk; omega)
      have z := ZZ.out w5 b5 (by rw [W2.out]; decide)
      exact ⟨_, by rw [z.2, W2.out]; rfl, z.1, b5⟩
    · have W2 := Lib.hid h3
      clear h3
      have hl : b.length = 32 := by rw [bne_eq_false_iff_eq] at h2; omega
      have h8 : d.wet.length < 8192 := by rw [beq_eq_false_iff_ne] at h4; have := HOK.out.2.2.2.1; omega
      have dd := fun (w3 : World) (b3 : Below w.heap.size w w3) (y2 : BoxOf w3 (w.heap.size + 1) [.int .i64 k]) (y3 : BoxOf w3 (w.heap.size + 2) [.slice pb b.length cb]) (hs3 : w.heap.size + 4 ≤ w3.heap.size) =>
        deed_any p c q e d w w3 72 #[.pointer (some ⟨w.heap.size + 1, 0, none⟩), .pointer (some ⟨w.heap.size + 2, 0, none⟩)] (writeAct k b) H.out b3 (big_of_ok HOK.out) (by have := HOK.out.1; omega) (enters_of Try.func72 (by kernel_rfl) rfl) HOK.out.2.2.2.2.2.1 HOK.out.2.2.2.2.2.2
          (fun W hi g cd q' e' cells f od bx hbel hsz => by simpa using write1_any w3.heap.size (w.heap.size + 1) (w.heap.size + 2) w.heap.size (w3.heap.size + 2) hi g cd q' e' cells d f k pb cb b W od bx (y2.below hbel) (y3.below hbel) ((RB.out.below b3).below hbel) hl hcb hmb (by omega) (by omega) h8 hsz (by omega) (by omega) (by omega) (by omega) (by omega) (by omega) (by omega))
      have DD := Lib.hid dd
      clear dd hl h8
      go_wp2_with (first
      | (refine wpList_store_box rfl 44 (.tmp 6) (.tmp 39) (by rfl) (w.heap.size + 3) [vd, vq, .int .i64 (deedD (writeAct k b) d).fuse, .bool (deedD (writeAct k b) d).dead] _ (by rfl) (by rfl) x5 (by kernel_rfl) rfl (by first | (simp [Value.oneCell']; done) | exact one4 na _ _) ?_; intro w5 x2 g2)
      | (refine (DD.out w3 b3 y2 y3 (by omega)).mono ?_; rintro e' w4 ⟨vd, vq, rfl, na, hb4⟩; have x5 := y4.below hb4; have b5 := bel2 b3 hb4)
      | (refine wpList_load_box rfl 44 (.tmp 3) (by rfl) w.heap.size [.slice p d.dry.length c, .slice q d.wet.length e, .int .i64 d.fuse, .bool d.dead] (by rfl) (by first | exact B1.out | exact y1) _ Try.underlying44 rfl (by kernel_rfl) ?_)
      | (go_at_call 70; refine (far_any p c q e d k w2 (H.out.below BB.out)).mono ?_; rintro e' w3 ⟨rfl, hb3⟩; rw [HF.out]; have y1 := B1.out.below hb3; have y2 := B2.out.below hb3; have y3 := B3.out.below hb3; have y4 := B4.out.below hb3; have b3 := bel2 BB.out hb3; have hs3 := hb3.size; have k1 := (y1.get 1 _ rfl).1))
      refine ret_disk_tmp rfl rfl x2 rfl ?_
      have n1 := na.grown g2 (by omega)
      have e1 : writeE d k b = deedE d := by unfold writeE; rw [if_pos W2.out]
      have e2 : writeD d k b = deedD (writeAct k b) d := by unfold writeD; rw [if_pos W2.out]
      exact ⟨_, by rw [e1]; rfl, by rw [e2]; exact ⟨vd, vq, _, rfl, n1.imp (by omega) (fun _ h => h)⟩, b5.grown g2 b5.size (fun k hk => by have := Option.some.inj hk; omega)⟩
end Go.Proofs.Ytnmgiiaejpaeeaa
