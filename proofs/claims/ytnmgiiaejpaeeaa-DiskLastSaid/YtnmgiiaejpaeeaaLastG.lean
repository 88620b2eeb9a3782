/- Plain laws for DiskLast; a copy out of a row of the call's own. -/
import Derived.Test.YtnmgiiaejpaeeaaLawDiskCrashG
namespace Go.Proofs.Ytnmgiiaejpaeeaa
set_option linter.unusedVariables false
set_option linter.unusedSimpArgs false
open Go.RowKit
section
variable {ops : Array Oper} {P : Program} {X : List Nat} {w0 w : World} {m0 m : Mem} {es : List Ent} {o : Oper} {a : Act} {K : Act → World → Prop} {Q : Exit → Act → World → Prop}
variable {rest : List Oper} {dst : Option Tmp} {rt : TypeId} {pos : String} {af : Array Edge}
theorem op_copyRR (hS : St X w0 m0 w es m) (d s : Operand) (dT sT : TypeId) (ho : o.op = .call { callee := .builtin .copy, args := #[d, s], argTypes := #[dT, sT] }) (elem t : TypeId) (hu : P.underlying dT = some (.slice elem)) (hsz : (P.info? elem).map (·.size) = some 1)
    {k : IntKind} {dry xs : List Int} {g cd off n dLen dCap : Nat} {sv : Value} {f : Value → Nat → List Value → List Ent} (hd : a.eval d = .slice (some ⟨g, off, none⟩) dLen dCap) (hi : RowAt es t 1 (.slice (some ⟨g, 0, none⟩) n cd) n (dry.map (.int k)) f) (hn : dry.length = n)
    {t2 : TypeId} (hs : a.eval s = sv) (hM : Ent.row t2 1 sv xs.length (xs.map (.int k)) ∈ es) (hx : xs.length ≤ dLen) (hfit : off + dLen ≤ n)
    (h : ∀ w', St X w0 m0 w' (f (.slice (some ⟨g, 0, none⟩) n cd) n ((splice dry off xs).map (.int k))) m → K (a.put o.dst (.int .i64 xs.length)) w') : o.wp P a w K Q := by
  subst hn
  obtain ⟨i, hi1, hf⟩ := hi.at
  obtain ⟨j, hj⟩ := List.getElem?_of_mem hM
  have hown2 : Own k t2 w 0 sv xs := hS.row j hj
  obtain ⟨p, c, rfl, r1, r2, r4⟩ := hown2.rd
  have hown : Own k t w 0 (.slice (some ⟨g, 0, none⟩) dry.length cd) dry := hS.row i hi1
  obtain ⟨w', hrun, h1, h2⟩ := run_copy_own (P := P) w dT sT o.type elem t hu hsz 0 g off dry.length cd dLen dCap k dry hown p xs c r4 hx hfit
  have hk := h w' (by
    rw [hf]
    refine hS.set i _ _ hi1 h2 ?_ (fun _ h => .inl h)
    have hl : (splice dry off xs).length = dry.length := length_splice _ _ _ (by omega)
    have := h1
    unfold Own at this
    rw [hl] at this
    exact this)
  unfold Oper.wp
  simp only [execOp, ho, resolve, invoke, builtin, hd, hs]
  simp [hd, hs, hrun, Result.andThen]
  exact hk
theorem wl_lit1 {t e : TypeId} {bytes : Nat} {z : Value} (hE : Elem P t e 1 bytes z) {y : Operand} (hS : St X w0 m0 w es m) {v : Value} (hy : a.eval y = v) (h1 : v.cells = #[v])
    (h : ∀ w' b, St X w0 m0 w' (.box b [v] :: es) m → wpList P ops Q rest (a.put dst (.slice (some ⟨b, 0, none⟩) 1 1)) w') : Wl P ops Q (⟨dst, .buildSlice t 1 #[(0, y)], rt, pos, af, none⟩ :: rest) a w := by
  refine wl_lit hE hS (cs := [v]) (by decide) (by decide) ?_ h
  have hz := hE.zsize
  have e1 : Array.range (1 * 1) = #[0] := by decide
  simp only [e1, List.map_toArray, List.map_cons, List.map_nil, hy]
  simp [Instr.fill, h1]
theorem wl_copyRR {d s : Operand} {dT sT elem t : TypeId} (hS : St X w0 m0 w es m) (hu : P.underlying dT = some (.slice elem)) (hsz : (P.info? elem).map (·.size) = some 1)
    {k : IntKind} {dry xs : List Int} {g cd off n dLen dCap : Nat} {sv : Value} {f : Value → Nat → List Value → List Ent} (hd : a.eval d = .slice (some ⟨g, off, none⟩) dLen dCap) (hi : RowAt es t 1 (.slice (some ⟨g, 0, none⟩) n cd) n (dry.map (.int k)) f) (hn : dry.length = n)
    {t2 : TypeId} (hs : a.eval s = sv) (hM : Ent.row t2 1 sv xs.length (xs.map (.int k)) ∈ es) (hx : xs.length ≤ dLen) (hfit : off + dLen ≤ n)
    (h : ∀ w', St X w0 m0 w' (f (.slice (some ⟨g, 0, none⟩) n cd) n ((splice dry off xs).map (.int k))) m → wpList P ops Q rest (a.put dst (.int .i64 xs.length)) w') : Wl P ops Q (⟨dst, .call { callee := .builtin .copy, args := #[d, s], argTypes := #[dT, sT] }, rt, pos, af, none⟩ :: rest) a w :=
  ⟨wpList_plain rfl fun K hK => op_copyRR hS d s dT sT rfl elem t hu hsz hd hi hn hs hM hx hfit fun w' hw => hK _ _ (h w' hw)⟩
end
/-! ### What DiskLast's disk is -/
def wetOf (x : Int × Int) : Wr := ⟨x.1, List.replicate 32 x.2⟩
structure Ls (n k : Nat) (D : Dk) (kept now : List Int) (l : List (Int × Int)) : Prop where
  ok : checkOK D
  fuse : D.fuse = -1
  dead : D.dead = false
  len : D.dry.length = n * 32
  wet : D.wet = l.map wetOf
  few : l.length ≤ k
  inl : ∀ x ∈ l, 0 ≤ x.1 ∧ x.1 < (n : Int) ∧ InK .u8 x.2
  klen : kept.length = n
  nlen : now.length = n
  kin : ∀ x ∈ kept, InK .u8 x
  nin : ∀ x ∈ now, InK .u8 x
  base : ∀ i, i < n → sec D.dry i = List.replicate 32 (kept.getD i 0)
  top : ∀ i, i < n → sees D i = List.replicate 32 (now.getD i 0)
theorem inK0 : InK .u8 0 := by simp [InK, IntKind.min, IntKind.max, IntKind.signed, IntKind.bits]
theorem sec_zero {n i : Nat} (h : i < n) : sec (List.replicate (n * 32) 0) i = List.replicate 32 0 := by
  apply List.ext_getElem?
  intro j
  rw [sec_get]
  simp only [List.getElem?_replicate]
  split
  · rw [if_pos (by omega)]
  · rfl
theorem ls_start {n : Nat} (h1 : 1 ≤ n) (h2 : n ≤ 12) : newE n = 0 ∧ Ls n 0 (newD n) (List.replicate n 0) (List.replicate n 0) [] := by
  have e : newD n = ⟨List.replicate (n * 32) 0, [], -1, false⟩ := by unfold newD; rw [if_neg (by omega)]; simp
  have g : ∀ i, i < n → (List.replicate n (0 : Int)).getD i 0 = 0 := fun i hi => by simp [List.getD, hi]
  refine ⟨by unfold newE; rw [if_neg (by omega)], ?_⟩
  rw [e]
  refine ⟨⟨by simp; omega, by simp; omega, by simp, by simp, rfl, by simp, by simp⟩, rfl, rfl, by simp, rfl, by simp, by simp, by simp, by simp, fun x hx => by rw [(List.mem_replicate.1 hx).2]; exact inK0, fun x hx => by rw [(List.mem_replicate.1 hx).2]; exact inK0, fun i hi => ?_, fun i hi => ?_⟩
  · rw [g i hi]; exact sec_zero hi
  · rw [g i hi]; exact sec_zero hi
theorem getD_set {l : List Int} {i j : Nat} (c : Int) (hj : j < l.length) : (l.set j c).getD i 0 = if j = i then c else l.getD i 0 := by
  simp only [List.getD, List.getElem?_set]
  split
  · rename_i h; subst h; simp [hj]
  · rfl
theorem mem_set' {l : List Int} {j : Nat} {c x : Int} (h : x ∈ l.set j c) : x ∈ l ∨ x = c := List.mem_or_eq_of_mem_set h
theorem ls_write {n k : Nat} {D : Dk} {kept now : List Int} {l : List (Int × Int)} (h : Ls n k D kept now l) (hk : k < 100) {j : Nat} (hj : j < n) {c : Int} (hc : InK .u8 c) {b : List Int} (hb : b = List.replicate 32 c) :
    writeE D j b = 0 ∧ Ls n (k + 1) (writeD D j b) kept (now.set j c) (l ++ [((j : Int), c)]) := by
  obtain ⟨h1, h2, h3, h4, h5, h6, h7, h8, h9, h10, h11, h12, h13⟩ := h
  have hbl : b.length = 32 := by rw [hb]; simp
  have hw : D.wet.length = l.length := by rw [h5]; simp
  have he : writeE D j b = 0 := write_can h1 h3 hbl (by rw [h4]; omega) (by omega) (by omega)
  obtain ⟨w1, w2⟩ := write_ok he
  obtain ⟨_, _, _, _, _, _, w3⟩ := write_zero he
  refine ⟨he, w1, by rw [w3]; show (if D.fuse = -1 then -1 else D.fuse - 1) = -1; rw [if_pos h2], w2, by rw [wrote_dry he]; exact h4, by rw [w3]; show D.wet ++ [⟨j, b⟩] = _; rw [h5, hb]; simp [wetOf], by simp; omega, fun x hx => ?_, h8, by simp; exact h9, h10, fun x hx => ?_, fun i hi => by rw [wrote_dry he]; exact h12 i hi, fun i hi => ?_⟩
  · rcases List.mem_append.1 hx with hx | hx
    · exact h7 x hx
    · simp at hx; subst hx; exact ⟨by simp, by show (j : Int) < n; omega, hc⟩
  · rcases mem_set' hx with hx | hx
    · exact h11 x hx
    · subst hx; exact hc
  · rw [sees_wrote he, getD_set _ (by omega), h13 i hi, hb]
    by_cases e : j = i
    · subst e; rw [if_pos rfl, if_pos rfl]
    · rw [if_neg (by omega), if_neg e]
theorem ls_flush {n k : Nat} {D : Dk} {kept now : List Int} {l : List (Int × Int)} (h : Ls n k D kept now l) : flushE D = 0 ∧ Ls n (k + 1) (flushD D) now now [] := by
  obtain ⟨h1, h2, h3, h4, h5, h6, h7, h8, h9, h10, h11, h12, h13⟩ := h
  have he := flush_can h1 h3 (by omega)
  obtain ⟨f1, f2, f3⟩ := flush_ok he
  obtain ⟨_, _, _, f4⟩ := flush_zero he
  have hs : ∀ i, i < n → sec (flushD D).dry i = List.replicate 32 (now.getD i 0) := fun i hi => by rw [(flushed_sec he (n := i) (by rw [h4]; omega)).1]; exact h13 i hi
  refine ⟨he, f1, by rw [f4]; show (if D.fuse = -1 then -1 else D.fuse - 1) = -1; rw [if_pos h2], f2, ?_, f3, by simp, by simp, h9, h9, h11, h11, hs, fun i hi => ?_⟩
  · rw [f4]; show (settleAt _ 0 D.wet D.dry).length = _; rw [settled_length h1 _ (fun _ => Nat.le_refl _)]; exact h4
  · unfold sees; rw [f3]; exact hs i hi
/-- What is kept by these bits. -/
def keepAll : List Bool → List (Int × Int) → List Int → List Int
  | b :: bs, x :: l, kp => keepAll bs l (if b then kp.set x.1.toNat x.2 else kp)
  | _, _, kp => kp
theorem keepAll_snoc : ∀ (bs : List Bool) (l : List (Int × Int)) (kp : List Int) (b : Bool) (x : Int × Int), bs.length = l.length → keepAll (bs ++ [b]) (l ++ [x]) kp = if b then (keepAll bs l kp).set x.1.toNat x.2 else keepAll bs l kp
  | [], [], kp, b, x, _ => rfl
  | _ :: bs, _ :: l, kp, b, x, h => keepAll_snoc bs l _ b x (by simpa using h)
theorem keepAll_length : ∀ (bs : List Bool) (l : List (Int × Int)) (kp : List Int), (keepAll bs l kp).length = kp.length
  | [], _, _ => by simp [keepAll]
  | _ :: _, [], _ => by simp [keepAll]
  | b :: bs, x :: l, kp => by
    show (keepAll bs l _).length = _
    rw [keepAll_length bs l]
    split <;> simp
theorem keepAll_in : ∀ (bs : List Bool) (l : List (Int × Int)) (kp : List Int), (∀ x ∈ kp, InK .u8 x) → (∀ x ∈ l, InK .u8 x.2) → ∀ x ∈ keepAll bs l kp, InK .u8 x
  | [], _, _, h, _ => by simpa [keepAll] using h
  | _ :: _, [], _, h, _ => by simpa [keepAll] using h
  | b :: bs, x :: l, kp, h, hl => by
    refine keepAll_in bs l _ ?_ (fun y hy => hl y (by simp [hy]))
    intro y hy
    split at hy
    · rcases mem_set' hy with hy | hy
      · exact h y hy
      · subst hy; exact hl x (by simp)
    · exact h y hy
theorem keepAll_sec (i : Nat) : ∀ (l : List (Int × Int)) (bs : List Bool) (off : Nat) (many : Nat → Nat) (kp s : List Int), bs.length = l.length → (∀ q, q < l.length → many (off + q) = if bs.getD q false then 32 else 0) → (∀ x ∈ l, 0 ≤ x.1 ∧ x.1.toNat < kp.length) → s = List.replicate 32 (kp.getD i 0) →
    settleS many off (l.map wetOf) i s = List.replicate 32 ((keepAll bs l kp).getD i 0)
  | [], [], _, _, kp, s, _, _, _, h => h
  | x :: l, b :: bs, off, many, kp, s, hl, hm, hx, h => by
    have h0 := hm 0 (by simp)
    obtain ⟨x1, x2⟩ := hx x (by simp)
    show settleS many (off + 1) (l.map wetOf) i _ = List.replicate 32 ((keepAll bs l _).getD i 0)
    refine keepAll_sec i l bs (off + 1) many _ _ (by simpa using hl) (fun q hq => ?_) (fun y hy => ?_) ?_
    · have := hm (q + 1) (by simpa using hq)
      rw [show off + 1 + q = off + (q + 1) by omega, this, List.getD_cons_succ]
    · have := hx y (by simp [hy])
      split <;> simpa using this
    · rw [Nat.add_zero] at h0
      simp only [List.getD_cons_zero] at h0
      show (if x.1 = (i : Int) then (List.replicate 32 x.2).take (many off) ++ s.drop ((List.replicate 32 x.2).take (many off)).length else s) = _
      cases b with
      | true =>
        simp only [if_true] at h0 ⊢
        rw [h0, getD_set _ x2]
        by_cases e : x.1 = (i : Int)
        · rw [if_pos e, if_pos (by omega), h]; simp
        · rw [if_neg e, if_neg (by omega), h]
      | false =>
        simp only [Bool.false_eq_true, if_false] at h0 ⊢
        rw [h0]
        split
        · simp [h]
        · exact h
def keepOf (bs : List Bool) : List Int := bs.map fun b => if b then 255 else 0
theorem keepOf_n (bs : List Bool) (q : Nat) (hq : q < bs.length) : keepN (keepOf bs) q = if bs.getD q false then 32 else 0 := by
  unfold keepN keepOf
  simp only [List.getD, List.getElem?_map, List.getElem?_eq_getElem hq, Option.map_some, Option.getD_some]
  cases bs[q] <;> rfl
theorem ls_crash {n k : Nat} {D : Dk} {kept now : List Int} {l : List (Int × Int)} (h : Ls n k D kept now l) {bs : List Bool} (hb : bs.length = l.length) : checkE D = 0 ∧ Ls n (k + 1) (crashD D (keepOf bs)) (keepAll bs l kept) (keepAll bs l kept) [] := by
  obtain ⟨h1, h2, h3, h4, h5, h6, h7, h8, h9, h10, h11, h12, h13⟩ := h
  have hw : D.wet.length = l.length := by rw [h5]; simp
  have hs : ∀ i, i < n → sec (crashD D (keepOf bs)).dry i = List.replicate 32 ((keepAll bs l kept).getD i 0) := fun i hi => by
    rw [crashed_sec h1, h5]
    exact keepAll_sec i l bs 0 _ kept _ hb (fun q hq => by rw [Nat.zero_add]; exact keepOf_n bs q (by omega)) (fun x hx => by have := h7 x hx; omega) (h12 i hi)
  have hcw : (crashD D (keepOf bs)).wet = [] := by rw [crash_ok h1]
  have hin := keepAll_in bs l kept h10 (fun x hx => (h7 x hx).2.2)
  refine ⟨if_pos h1, crash_check h1 _, by rw [crash_ok h1], by rw [crash_ok h1], by rw [crashed_length h1]; exact h4, hcw, by simp, by simp, by rw [keepAll_length]; exact h8, by rw [keepAll_length]; exact h8, hin, hin, hs, fun i hi => ?_⟩
  unfold sees; rw [hcw]; exact hs i hi
theorem ls_read {n k : Nat} {D : Dk} {kept now : List Int} {l : List (Int × Int)} (h : Ls n k D kept now l) {i : Nat} (hi : i < n) : readE D i = 0 ∧ readB D i = List.replicate 32 (now.getD i 0) := by
  obtain ⟨r1, r2⟩ := read_ok (n := i) h.ok h.dead (by rw [h.len]; omega)
  exact ⟨r1, r2.trans (h.top i hi)⟩
end Go.Proofs.Ytnmgiiaejpaeeaa
