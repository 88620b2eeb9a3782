/- The walk of ModelLast, joined. -/
import Derived.Test.YtlkdjmpkapeppaaDoorMl1G
import Derived.Test.YtlkdjmpkapeppaaDoorMl2G
import Derived.Test.YtlkdjmpkapeppaaDoorMl3G
import Derived.Test.YtlkdjmpkapeppaaDoorMl4G
import Derived.Test.YtlkdjmpkapeppaaDoorMl5G
import Derived.Test.YtlkdjmpkapeppaaDoorMl6G
namespace Go.Proofs.YtlkdjmpkapeppaaDoor
set_option linter.unusedVariables false
set_option linter.unusedSimpArgs false
open Go.RowKit Go.Shelf
set_option maxRecDepth 100000 in
theorem walkModelLast (w : World) (hG : ShAt (World.mem w)) (vm : Value) (M : Md) (hM : ∃ q c, vm = .agg #[.int .i64 M.cap, .int .i64 M.dim, .slice q M.l.length c] ∧ itL.list.rd (World.mem w) [.slice q M.l.length c] M.l) (z : Int) (hz : (Lit.int .i64 z).wf = true) (vv : Value) (v : List Int) (hv : vecL.rd (World.mem w) [vv] v) (vu : Value) (u : List Int) (hu : vecL.rd (World.mem w) [vu] u) :
    Calls Tryd.prog 4 #[vm, .int .i64 z, vv, vu] w fun e w' => e = .returned (.bool true) ∧ Below w.heap.size w w' := by
  by_cases hb1 : (300 : Int) < v.length
  · exact walkML1 w hG vm M hM z hz vv v hv vu u hu hb1
  by_cases hb2 : (300 : Int) < u.length
  · exact walkML2 w hG vm M hM z hz vv v hv vu u hu hb1 hb2
  by_cases g1 : ¬ (okM M ∧ okA (upA z v) M.dim M.cap)
  · exact walkML3 w hG vm M hM z hz vv v hv vu u hu hb1 hb2 (if_neg g1)
  replace g1 := Classical.not_not.1 g1
  have K1 : Hid (doE M (upA z v) = 0) := if_pos g1
  by_cases g2 : ¬ okA (upA z u) M.dim M.cap
  · exact walkML4 w hG vm M hM z hz vv v hv vu u hu hb1 hb2 K1 (if_neg fun h => g2 h.2)
  replace g2 := Classical.not_not.1 g2
  have K3 : Hid (doE M (upA z u) = 0) := if_pos ⟨g1.1, g2⟩
  have dv := doM_ok g1.1 g1.2
  have du := doM_ok g1.1 g2
  have hre : (doR M (upA z v)).e = 0 ∨ (doR M (upA z v)).e = 7 := by
    rw [(doR_put (.inr rfl)).1, if_neg (by rintro ⟨h, _⟩; cases h)]
    split
    · exact .inr rfl
    · exact .inl rfl
  rcases hre with hr | hr
  · exact walkML5 w hG vm M hM z hz vv v hv vu u hu hb1 hb2 K1 K3 (by show _ = _; rw [dv.2.1]; exact hr) g1 g2 hr
  · exact walkML6 w hG vm M hM z hz vv v hv vu u hu hb1 hb2 K1 K3 (by show _ = _; rw [dv.2.1]; exact hr) (by show _ = _; rw [du.2.1, up_e (w := v)]; exact hr)
end Go.Proofs.YtlkdjmpkapeppaaDoor
