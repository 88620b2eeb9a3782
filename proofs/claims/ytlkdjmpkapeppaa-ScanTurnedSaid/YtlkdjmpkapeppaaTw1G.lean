/- twist: complex numbers that hold whole ones; unit, odd. -/
import Derived.Test.YtlkdjmpkapeppaaFlG
import Derived.Test.YtlkdjmpkapeppaaG1
namespace Go.Proofs.Ytlkdjmpkapeppaa
set_option linter.unusedVariables false
set_option linter.unusedSimpArgs false
open Go.RowKit Go.Shelf
theorem run_fmul {P : Program} {a b : Nat} {x y : Int} (ha : IsW a x) (hb : IsW b y) (hn : (x * y).natAbs < 9007199254740992) : ∃ r, (∀ w, (Op.Complex.mul a b).run P w = .ok r w) ∧ IsW r (x * y) := by
  obtain ⟨r, h1, h2⟩ := isW_mul ha hb hn
  refine ⟨r, fun w => ?_, h2⟩
  have e : FloatKind.f64.format.mul a b = some r := h1
  simp [Op.Complex.mul, Op.Complex.arith, Op.floatArith, e]
theorem run_fadd {P : Program} {a b : Nat} {x y : Int} (ha : IsW a x) (hb : IsW b y) (hn : (x + y).natAbs < 9007199254740992) : ∃ r, (∀ w, (Op.Complex.add a b).run P w = .ok r w) ∧ IsW r (x + y) := by
  obtain ⟨r, h1, h2⟩ := isW_add ha hb hn
  refine ⟨r, fun w => ?_, h2⟩
  have e : FloatKind.f64.format.add a b = some r := h1
  simp [Op.Complex.add, Op.Complex.arith, Op.floatArith, e]
theorem run_fsub {P : Program} {a b : Nat} {x y : Int} (ha : IsW a x) (hb : IsW b y) (hn : (x - y).natAbs < 9007199254740992) : ∃ r, (∀ w, (Op.Complex.sub a b).run P w = .ok r w) ∧ IsW r (x - y) := by
  obtain ⟨r, h1, h2⟩ := isW_sub ha hb hn
  refine ⟨r, fun w => ?_, h2⟩
  have e : FloatKind.f64.format.sub a b = some r := h1
  simp [Op.Complex.sub, Op.Complex.arith, Op.floatArith, e]
theorem small_mul {x u : Int} (hx : -32768 ≤ x ∧ x ≤ 32768) (hu : -1 ≤ u ∧ u ≤ 1) : -32768 ≤ x * u ∧ x * u ≤ 32768 := by
  have : u = -1 ∨ u = 0 ∨ u = 1 := by omega
  rcases this with rfl | rfl | rfl <;> omega
/-- A product of complex numbers that hold whole ones. -/
theorem run_cmul {P : Program} (t : TypeId) {a b c d : Nat} {x y u v : Int} (ha : IsW a x) (hb : IsW b y) (hc : IsW c u) (hd : IsW d v) (hx : -32768 ≤ x ∧ x ≤ 32768) (hy : -32768 ≤ y ∧ y ≤ 32768) (hu : -1 ≤ u ∧ u ≤ 1) (hv : -1 ≤ v ∧ v ≤ 1) :
    ∃ e f, (∀ w, (binOp .mul t (.complex .f64 a b) (.complex .f64 c d)).run P w = .ok (.complex .f64 e f) w) ∧ IsW e (x * u - y * v) ∧ IsW f (x * v + y * u) := by
  have b1 := small_mul hx hu
  have b2 := small_mul hy hv
  have b3 := small_mul hx hv
  have b4 := small_mul hy hu
  obtain ⟨r1, h1, w1⟩ := run_fmul (P := P) ha hc (by omega)
  obtain ⟨r2, h2, w2⟩ := run_fmul (P := P) hb hd (by omega)
  obtain ⟨r3, h3, w3⟩ := run_fmul (P := P) ha hd (by omega)
  obtain ⟨r4, h4, w4⟩ := run_fmul (P := P) hb hc (by omega)
  obtain ⟨e, h5, w5⟩ := run_fsub (P := P) w1 w2 (by omega)
  obtain ⟨f, h6, w6⟩ := run_fadd (P := P) w3 w4 (by omega)
  refine ⟨e, f, fun w => ?_, w5, w6⟩
  simp [binOp, Op.complexOp, Op.Complex.conv, Op.Complex.product, h1, h2, h3, h4, h5, h6]
theorem run_i2f {P : Program} {s t : TypeId} {k : IntKind} (hs : P.underlying s = some (.int k)) (ht : P.underlying t = some (.float .f64)) {n : Int} (hn : n.natAbs < 9007199254740992) : ∃ r, (∀ w, (convert s t (.int k n)).run P w = .ok (.float .f64 r) w) ∧ IsW r n := by
  refine ⟨FloatKind.f64.nearest n, fun w => ?_, ?_⟩
  · simp [convert, run_underlying hs, run_underlying ht, Conv.intToFloat]
  · have := isW_write (s := decide (n < 0)) (k := 0) hn (fun _ => rfl)
    simpa [FloatKind.nearest, FloatKind.encode, FloatKind.format] using this
theorem run_f2i {P : Program} {s t : TypeId} (hs : P.underlying s = some (.float .f64)) (ht : P.underlying t = some (.int .i16)) {r : Nat} {n : Int} (hr : IsW r n) (hn : -32768 ≤ n ∧ n ≤ 32767) (w : World) : (convert s t (.float .f64 r)).run P w = .ok (.int .i16 n) w := by
  have h1 : (FloatKind.f64.decode r).toInt .zero = some n := isW_back hr
  have h2 : IntKind.i16.min ≤ n ∧ n ≤ IntKind.i16.max := by simp [IntKind.min, IntKind.max, IntKind.signed, IntKind.bits]; omega
  simp [convert, run_underlying hs, run_underlying ht, Conv.floatToInt, h1, h2]
theorem cplx_run {P : Program} (ats : Array TypeId) (ty : TypeId) (r i : Nat) (w : World) : (Builtin.complex_ ats ty #[.float .f64 r, .float .f64 i]).run P w = .ok (.complex .f64 r i) w := rfl
theorem real_run {P : Program} (ats : Array TypeId) (ty : TypeId) (r i : Nat) (w : World) : (Builtin.real_ ats ty #[.complex .f64 r i]).run P w = .ok (.float .f64 r) w := rfl
theorem imag_run {P : Program} (ats : Array TypeId) (ty : TypeId) (r i : Nat) (w : World) : (Builtin.imag_ ats ty #[.complex .f64 r i]).run P w = .ok (.float .f64 i) w := rfl
theorem yield_cplx {P : Program} {S : World → Prop} {o : Oper} {a : Act} {x y : Operand} {tx ty : TypeId} {r i : Nat} (ho : o.op = .call { callee := .builtin .complex, args := #[x, y], argTypes := #[tx, ty] }) (hx : a.eval x = .float .f64 r) (hy : a.eval y = .float .f64 i) :
    ∀ w, S w → (execOp a.eval o).run P w = .ok (.value (.complex .f64 r i)) w := fun w _ => by
  unfold execOp
  simp only [ho, resolve, invoke, builtin, Sem.run_bind, Sem.run_pure, Result.andThen_ok, List.map_toArray, List.map_cons, List.map_nil, hx, hy, cplx_run]
/-- What a digit's quarters are taken by. -/
def wR : Nat → Nat
  | 0 => 4607182418800017408 | 1 => 0 | 2 => 13830554455654793216 | _ => 9223372036854775808
def wI : Nat → Nat
  | 0 => 0 | 1 => 4607182418800017408 | 2 => 0 | _ => 13830554455654793216
def uR : Nat → Int
  | 0 => 1 | 1 => 0 | 2 => -1 | _ => 0
def uI : Nat → Int
  | 0 => 0 | 1 => 1 | 2 => 0 | _ => -1
theorem isW_unit (d : Nat) (hd : d < 4) : IsW (wR d) (uR d) ∧ IsW (wI d) (uI d) := by
  have one : IsW 4607182418800017408 1 := ⟨false, 52, by decide +kernel, by decide⟩
  have zero : IsW 0 0 := ⟨false, 1074, by decide +kernel, by decide⟩
  have mone : IsW 13830554455654793216 (-1) := ⟨true, 52, by decide +kernel, by decide⟩
  have mzero : IsW 9223372036854775808 0 := ⟨true, 1074, by decide +kernel, by decide⟩
  match d, hd with
  | 0, _ => exact ⟨one, zero⟩
  | 1, _ => exact ⟨zero, one⟩
  | 2, _ => exact ⟨mone, zero⟩
  | 3, _ => exact ⟨mzero, mone⟩
theorem unit_mul (d : Nat) (hd : d < 3) (w : World) : (binOp .mul 94 (.complex .f64 (wR d) (wI d)) (.complex .f64 0 4607182418800017408)).run Try.prog w = .ok (.complex .f64 (wR (d + 1)) (wI (d + 1))) w := by
  have h : d = 0 ∨ d = 1 ∨ d = 2 := by omega
  clear hd
  rcases h with rfl | rfl | rfl
  · show _ = _; kernel_rfl
  · show _ = _; kernel_rfl
  · show _ = _; kernel_rfl
set_option maxRecDepth 100000 in
set_option maxHeartbeats 4000000 in
theorem unit_c (m : Mem) (w : World) (hm : m.In w) (d : Nat) (hd : d < 4) :
    Calls Try.prog 53 #[.int .i64 d] w (Ret w m fun v _ => v = .complex .f64 (wR d) (wI d)) := by
  have hS := St.start hm
  go_enter Try.func53, Try.ntmps53
  go_wp2_with fail
  go_loopw [3, 5] (fun vu vi wr => ∃ k : Nat, k ≤ d ∧ vu = .complex .f64 (wR k) (wI k) ∧ vi = .int .i64 k ∧ St [] w m wr [] m) (fun _ vi _ => d - (intOf vi).toNat)
  case atStart => exact ⟨0, Nat.zero_le _, rfl, rfl, hS⟩
  case round =>
    clear hS
    obtain ⟨k, hk, rfl, rfl, hS⟩ := hrel
    by_cases hlt : k < d
    · have hkz : (k : Int) < d := by omega
      have hmul := unit_mul k (by omega)
      obtain ⟨r1, e1⟩ : ∃ r1, wR (k + 1) = r1 := ⟨_, rfl⟩
      obtain ⟨r2, e2⟩ : ∃ r2, wI (k + 1) = r2 := ⟨_, rfl⟩
      rw [e1, e2] at hmul
      have H1 := Lib.hid e1
      have H2 := Lib.hid e2
      clear e1 e2
      generalize wR k = r3 at *
      generalize wI k = r4 at *
      go_wp2_with fail
      go_roundw
      case rel => exact ⟨k + 1, hlt, by rw [H1.out, H2.out], by go_num, hS⟩
      case measure => simp [intOf]; omega
    · obtain rfl : k = d := by omega
      go_wp2_with fail
      go_ret
      exact ⟨_, m, rfl, rfl, hS⟩
end Go.Proofs.Ytlkdjmpkapeppaa
