/- The walk of ModelApart, joined. -/
import Derived.Test.YtdeeclnjkjapcaaDoorMa1G
import Derived.Test.YtdeeclnjkjapcaaDoorMa2G
import Derived.Test.YtdeeclnjkjapcaaDoorMa3G
import Derived.Test.YtdeeclnjkjapcaaDoorMa4G
import Derived.Test.YtdeeclnjkjapcaaDoorMa5G
import Derived.Test.YtdeeclnjkjapcaaDoorMa6G
import Derived.Test.YtdeeclnjkjapcaaDoorMa7G
namespace Go.Proofs.YtdeeclnjkjapcaaDoor
set_option linter.unusedVariables false
set_option linter.unusedSimpArgs false
open Go.RowKit Go.Shelf
set_option maxRecDepth 100000 in
theorem walkModelApart (w : World) (hG : ShAt (World.mem w)) (vm : Value) (M : Md) (hM : ∃ q c, vm = .agg #[.int .i64 M.cap, .int .i64 M.dim, .slice q M.l.length c] ∧ itL.list.rd (World.mem w) [.slice q M.l.length c] M.l) (va : Value) (a : Ak) (ha : ∃ q c, va = .agg #[.int .i64 a.kind, .int .i64 a.id, .int .i64 a.k, .int .i64 a.seed, .slice q a.v.length c] ∧ InK .i64 a.id ∧ InK .i64 a.seed ∧ vecL.rd (World.mem w) [.slice q a.v.length c] a.v) (vb : Value) (b : Ak) (hb : ∃ q c, vb = .agg #[.int .i64 b.kind, .int .i64 b.id, .int .i64 b.k, .int .i64 b.seed, .slice q b.v.length c] ∧ InK .i64 b.id ∧ InK .i64 b.seed ∧ vecL.rd (World.mem w) [.slice q b.v.length c] b.v) :
    Calls Tryd.prog 4 #[vm, va, vb] w fun e w' => e = .returned (.bool true) ∧ Below w.heap.size w w' := by
  by_cases h1 : (300 : Int) < a.v.length
  · exact walkMA1 w hG vm M hM va a ha vb b hb h1
  by_cases h2 : (300 : Int) < b.v.length
  · exact walkMA2 w hG vm M hM va a ha vb b hb h1 h2
  by_cases h3 : a.id = b.id
  · exact walkMA3 w hG vm M hM va a ha vb b hb h1 h2 (by simpa using h3)
  replace h3 : (a.id == b.id) = false := by simpa using h3
  by_cases h4 : (3 : Int) < a.kind
  · exact walkMA4 w hG vm M hM va a ha vb b hb h1 h2 h3 h4
  by_cases h5 : (3 : Int) < b.kind
  · exact walkMA5 w hG vm M hM va a ha vb b hb h1 h2 h3 h4 h5
  by_cases g1 : okM M ∧ okA a M.dim M.cap
  case neg => exact walkMA6 w hG vm M hM va a ha vb b hb h1 h2 h3 h4 h5 (if_neg g1)
  have K1 : Hid (doE M a = 0) := if_pos g1
  by_cases g2 : okA b M.dim M.cap
  case neg => exact walkMA7 w hG vm M hM va a ha vb b hb h1 h2 h3 h4 h5 K1 (if_neg fun h => g2 h.2)
  have K2 : Hid (doE M b = 0) := if_pos ⟨g1.1, g2⟩
  by_cases hr : M.cap < (M.l.length : Int) + 2
  case neg => exact walkMA11 w hG vm M hM va a ha vb b hb h1 h2 h3 h4 h5 K1 K2 g1 g2 hr
  cases x1 : ((doP (doM M a) b).e != (doP M b).e) with
  | true => exact walkMA8 w hG vm M hM va a ha vb b hb h1 h2 h3 h4 h5 K1 K2 g1 g2 hr x1
  | false =>
    cases x2 : ((doP (doM M b) a).e != (doP M a).e) with
    | true => exact walkMA9 w hG vm M hM va a ha vb b hb h1 h2 h3 h4 h5 K1 K2 g1 g2 hr x1 x2
    | false => exact walkMA10 w hG vm M hM va a ha vb b hb h1 h2 h3 h4 h5 K1 K2 g1 g2 hr x1 x2
end Go.Proofs.YtdeeclnjkjapcaaDoor
