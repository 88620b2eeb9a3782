/- Contracts of disk.Crash, Lit, New. -/
import Derived.Test.YtnmgiiaejpaeeaaDk5
namespace Go.Proofs.Ytnmgiiaejpaeeaa
set_option linter.unusedVariables false
set_option linter.unusedSimpArgs false
open Go.RowKit
def keepN (keep : List Int) (k : Nat) : Nat := min (keep.getD k 0).toNat 32
theorem keepN_le (keep : List Int) (k : Nat) : keepN keep k ≤ 32 := Nat.min_le_right _ _
set_option maxRecDepth 100000 in
set_option maxHeartbeats 2000000 in
theorem crash1_any (T : Nat) (p : Option Addr) (c : Nat) (keep : List Int) (k : Nat) (w : World) (bx : BoxOf w T [.slice p keep.length c]) (rd : Rd .u8 w p keep) (hb : IsB keep) (hc : keep.length ≤ c) (hm : c ≤ maxLen) (hk : k ≤ 9223372036854775807) :
    Calls Try.prog 78 #[.int .i64 k, .pointer (some ⟨T, 0, none⟩)] w fun e w' => e = .returned (.int .i64 (keepN keep k)) ∧ w = w' := by
  simp only [maxLen] at hm
  have k0 := (bx.get 0 _ rfl).1
  by_cases hlt : k < keep.length
  · obtain ⟨b, o, rfl, hcell⟩ := rd (by omega)
    have hx := hcell k hlt
    have hr := hb _ (List.getElem_mem hlt)
    have he : keep.getD k 0 = keep[k] := by simp [List.getD, hlt]
    rw [he] at hx
    have hn : keepN keep k = min keep[k].toNat 32 := by unfold keepN; rw [he]
    rw [hn]
    generalize keep[k] = x at *
    have hlt' : (k : Int) < (keep.length : Int) := by omega
    have way : ((min x.toNat 32 : Nat) : Int) = min x 32 := by omega
    rw [way]
    clear hcell rd hb hn he bx way
    go_enter Try.func78, Try.ntmps78
    go_wp2
    go_ret
    exact ⟨rfl, rfl⟩
  · have hn : keepN keep k = 0 := by unfold keepN; simp [List.getD, show keep.length ≤ k by omega]
    rw [hn]
    clear hn rd hb bx
    go_enter Try.func78, Try.ntmps78
    go_wp2
    go_ret
    exact ⟨rfl, rfl⟩
theorem box_three (w : World) (a b c : List Value) (t u v : TypeId) : BoxOf (((w.alloc (.cells a.toArray t)).alloc (.cells b.toArray u)).alloc (.cells c.toArray v)) w.heap.size a ∧ BoxOf (((w.alloc (.cells a.toArray t)).alloc (.cells b.toArray u)).alloc (.cells c.toArray v)) (w.heap.size + 1) b ∧ BoxOf (((w.alloc (.cells a.toArray t)).alloc (.cells b.toArray u)).alloc (.cells c.toArray v)) (w.heap.size + 2) c :=
  ⟨(box_two' w a b t u).1.alloc _, (box_two' w a b t u).2.alloc _, by have := BoxOf.new ((w.alloc (.cells a.toArray t)).alloc (.cells b.toArray u)) c v; rwa [size_alloc, size_alloc] at this⟩
theorem Rd.blk {k : IntKind} {w : World} {p : Option Addr} {xs : List Int} (h : Rd k w p xs) (h0 : 0 < xs.length) : ∀ a, p = some a → a.block < w.heap.size := fun a ha => by
  obtain ⟨b, o, rfl, hc⟩ := h h0
  obtain rfl := Option.some.inj ha
  exact World.block_lt_of_cell? w _ (hc 0 h0)
def crashD (d : Dk) (keep : List Int) : Dk := if checkOK d then ⟨settleAt (keepN keep) 0 d.wet d.dry, [], -1, false⟩ else dk0
set_option maxRecDepth 100000 in
set_option maxHeartbeats 4000000 in
theorem crash_any (p : Option Addr) (c : Nat) (q : Option Addr) (e : Nat) (d : Dk) (pk : Option Addr) (ck : Nat) (keep : List Int) (w : World) (h : DkAt w p c q e d) (rk : Rd .u8 w pk keep) (bk : IsB keep) (hck : keep.length ≤ ck) (hmk : ck ≤ maxLen) :
    Calls Try.prog 38 #[dkV p c q e d, .slice pk keep.length ck] w fun e' w' => ∃ v, e' = .returned (.tuple #[v, .int .i64 (checkE d)]) ∧ NewDk w' w.heap.size v (crashD d keep) ∧ Below w.heap.size w w' := by
  have hW : ∀ O1 O2 O3, Below w.heap.size w (((w.alloc O1).alloc O2).alloc O3) := fun O1 O2 O3 => ((below_new w O1).alloc (by simp) O2).alloc (by simp; omega) O3
  have HW := Lib.hid hW
  have H := Lib.hid h
  have RK := Lib.hid rk
  clear h hW rk
  go_enter Try.func38, Try.ntmps38
  go_wp2_with fail
  refine (check_any p c q e d _ (H.out.below (HW.out _ _ _))).mono ?_
  rintro e' w2 ⟨rfl, hb2⟩
  have hs : (((w.alloc (.cells #[.slice p d.dry.length c, .slice q d.wet.length e, .int .i64 d.fuse, .bool d.dead] 44)).alloc (.cells #[.slice pk keep.length ck] 22)).alloc (.cells #[.slice none 0 0, .slice none 0 0, .int .i64 0, .bool false] 44)).heap.size = w.heap.size + 3 := by simp
  have hbb : Below w.heap.size w w2 := bel2 (HW.out _ _ _) hb2
  have hs2 := hb2.size
  rw [hs] at hs2
  have b3 := box_three w [.slice p d.dry.length c, .slice q d.wet.length e, .int .i64 d.fuse, .bool d.dead] [.slice pk keep.length ck] [.slice none 0 0, .slice none 0 0, .int .i64 0, .bool false] 44 22 44
  have B1 := Lib.hid (b3.1.below hb2)
  have B2 := Lib.hid (b3.2.1.below hb2)
  have B3 := Lib.hid (b3.2.2.below hb2)
  have BB := Lib.hid hbb
  clear b3 hbb hb2 hs
  rcases checkE_cases d with ⟨hc, hok⟩ | ⟨hc, hok⟩
  · have e1 : crashD d keep = ⟨settleAt (keepN keep) 0 d.wet d.dry, [], -1, false⟩ := if_pos hok
    have E1 := Lib.hid e1
    rw [hc]
    have HC := Lib.hid hc
    clear e1 hc
    have HP := placed_of_ok hok
    have oo := own_any p c q e d w w2 H.out BB.out (big_of_ok hok) (by have := hok.1; omega)
    have OO := Lib.hid oo
    have HM := hok.2.2.2.1
    have HOK := Lib.hid hok
    clear oo hok
    go_wp2_with (first
      | (refine wpList_store_box rfl 44 (.tmp 4) (.tmp 19) (by rfl) (w.heap.size + 2) [.slice (some ⟨g, 0, none⟩) d.dry.length cd, .slice none 0 0, .int .i64 (-1), .bool false] _ (by rfl) (by rfl) ((z3.setOther ⟨w.heap.size, 2, none⟩ (.int .i64 (-1)) (by show w.heap.size + 2 ≠ w.heap.size; omega)).setOther ⟨w.heap.size, 3, none⟩ (.bool false) (by show w.heap.size + 2 ≠ w.heap.size; omega)) (by kernel_rfl) rfl (by simp [Value.oneCell']) ?_; intro w8 y5 g8)
      | (refine wpList_load_box rfl 44 (.tmp 2) (by rfl) w.heap.size [.slice (some ⟨g, 0, none⟩) d.dry.length cd, .slice none 0 0, .int .i64 (-1), .bool false] (by rfl) ((z1.set 2 (.int .i64 (-1))).set 3 (.bool false)) _ Try.underlying44 rfl (by kernel_rfl) ?_)
      | (refine (settle_any w.heap.size w.heap.size w2.heap.size hi g cd q2 c2 cells d w4 78 #[.pointer (some ⟨w.heap.size + 1, 0, none⟩)] (keepN keep) od4 y1 (by omega) HP (by omega) (enters_of Try.func78 (by kernel_rfl) rfl) (keepN_le keep) HM (fun W k hW hk => by simpa using crash1_any (w.heap.size + 1) pk ck keep k W (y2.grown hW (by omega)) ((RK.out.below b4).grown hW (fun h0 a ha => by have := RK.out.blk h0 a ha; omega)) bk hck hmk (by omega))).mono ?_; rintro e' w6 ⟨rfl, z1, ho, w5, hg5, hw6⟩; have k2 := (z1.get 2 _ rfl).1; have i2 := (z1.get 2 _ rfl).2; have k3 := (z1.get 3 _ rfl).1; have i3 := (z1.get 3 _ rfl).2; have z3 : BoxOf w6 (w.heap.size + 2) [.slice none 0 0, .slice none 0 0, .int .i64 0, .bool false] := by { rw [hw6]; exact (y3.grown hg5 (by omega)).setOther _ _ (by show w.heap.size + 2 ≠ w.heap.size; omega) }; have b6 : Below w.heap.size w w6 := by { rw [hw6]; exact (b4.grown hg5 b4.size (fun k hk => by have := Option.some.inj hk; omega)).setCell (by show w.heap.size ≤ w.heap.size; omega) _ }; clear hw6)
      | (refine wpList_store_box rfl 44 (.tmp 2) (.tmp 14) (by rfl) w.heap.size [.slice (some ⟨g, 0, none⟩) d.dry.length cd, .slice q2 d.wet.length c2, .int .i64 d.fuse, .bool d.dead] _ (by rfl) (by rfl) x1 (by kernel_rfl) rfl (by simp [Value.oneCell']) ?_; intro w4 y1 g1; have y2 := x2.grown g1 (by omega); have y3 := x3.grown g1 (by omega); have od4 := od.grown g1 (by have := BB.out.size; omega) (by omega) (by omega) (fun a ha => by have := hqw.2.2 a ha; omega); have b4 := bel3.grown g1 bel3.size (fun k hk => by have := Option.some.inj hk; omega))
      | (refine OO.out.mono ?_; rintro e' w3 ⟨hi, g, cd, q2, c2, cells, rfl, od, hb3⟩; have x1 := B1.out.below hb3; have x2 := B2.out.below hb3; have x3 := B3.out.below hb3; have bel3 := bel2 BB.out hb3; have hge := od.dry.ge; have hll := od.lt; have hqw := ownsRow_lims od.wet)
      | (refine wpList_load_box rfl 44 (.tmp 2) (by rfl) w.heap.size [.slice p d.dry.length c, .slice q d.wet.length e, .int .i64 d.fuse, .bool d.dead] (by rfl) B1.out _ Try.underlying44 rfl (by kernel_rfl) ?_))
    refine ret_disk_tmp rfl rfl y5 rfl ?_
    have hl : (settleAt (keepN keep) 0 d.wet d.dry).length = d.dry.length := settleAt_length _ d.dry.length (keepN_le keep) _ _ _ rfl fun x hx => (HP x hx).2
    have o7 := ((Own.below ho (Below.refl _ _)).kept (grownBy_set w6 ⟨w.heap.size, 2, none⟩ (.int .i64 (-1))) (.inr (by simp [Value.ownBlock]; omega))).kept (grownBy_set _ ⟨w.heap.size, 3, none⟩ (.bool false)) (.inr (by simp [Value.ownBlock]; omega))
    have o8 : Own .u8 5 w8 w2.heap.size (.slice (some ⟨g, 0, none⟩) d.dry.length cd) (settleAt (keepN keep) 0 d.wet d.dry) := o7.kept g8 (.inr (by simp [Value.ownBlock]; omega))
    have b7 := (b6.setCell (p := ⟨w.heap.size, 2, none⟩) (by show w.heap.size ≤ w.heap.size; omega) (.int .i64 (-1))).setCell (p := ⟨w.heap.size, 3, none⟩) (by show w.heap.size ≤ w.heap.size; omega) (.bool false)
    refine ⟨_, by rw [HC.out]; rfl, ?_, b7.grown g8 b7.size (fun k hk => by have := Option.some.inj hk; omega)⟩
    rw [E1.out]
    exact ⟨_, _, fun _ => True, rfl, o8.base (by omega), fun _ _ => trivial, none, 0, rfl, Nat.le_refl _, by simp [maxLen], RdWk.nil _ _ _⟩
  · have e1 : crashD d keep = dk0 := if_neg hok
    have E1 := Lib.hid e1
    rw [hc]
    have HC := Lib.hid hc
    clear e1 hc hok
    go_wp2_with (refine wpList_store_box rfl 44 (.tmp 4) (.tmp 11) (by rfl) (w.heap.size + 2) [.slice none 0 0, .slice none 0 0, .int .i64 0, .bool false] _ (by rfl) (by rfl) B3.out (by kernel_rfl) rfl (by simp [Value.oneCell']) ?_; intro w5 x2 g2)
    refine ret_disk_tmp rfl rfl x2 rfl ?_
    exact ⟨_, by rw [HC.out]; rfl, by rw [E1.out]; exact NewDk.zero _ _, BB.out.grown g2 BB.out.size (fun k hk => by have := Option.some.inj hk; omega)⟩
end Go.Proofs.Ytnmgiiaejpaeeaa
