/-
  The law GenMakes.
-/
import Derived.Test.YtgcfmodgabeocaaDoorC20
namespace Go.Proofs.YtgcfmodgabeocaaDoor.X
open Go.RowKit F
set_option maxRecDepth 100000
set_option linter.unusedSimpArgs false
set_option linter.unusedVariables false

@[simp] theorem binX_bool {P : Program} {t : TypeId} (ht : P.underlying t = some .bool) {a b : Bool} : binX P .eql t (.bool a) (.bool b) = some (.bool (decide (a = b))) := by
  simp [binX, eqX, ht, tyK, AV.cls]
  rw [Bool.eq_iff_iff]; simp
end Go.Proofs.YtgcfmodgabeocaaDoor.X
