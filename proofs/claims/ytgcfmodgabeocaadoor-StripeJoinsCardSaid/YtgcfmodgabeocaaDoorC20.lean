/-
  sheetpilelaw04.live.
-/
import Derived.Test.YtgcfmodgabeocaaDoorCA
namespace Go.Proofs.YtgcfmodgabeocaaDoor.X
open Go.RowKit F
set_option maxRecDepth 100000
set_option linter.unusedSimpArgs false
set_option linter.unusedVariables false

@[simp] theorem str_S (l : List UInt8) : AV.str { data := l.toArray } = S l := id rfl
theorem dec_callS (k m : Int) (l : List Int) (hl : l.length < 2 ^ 60) {h : Heap} {x : AV} (hx : snap h true 2 x = some (IL l)) : CSem Tryd.prog 48 [.int .i64 k, .int .i64 m, x] h fun x' h' => x' = rL (decR k m l).1 (decR k m l).2 ∧ h' = h :=
  (dec_fresh k m l hl).pure.call (k := 2) (by simp [hx])
theorem fact1 : genR 2 1 = ([[1, 0], [0, 1], [0x8e, 0xf4]], 0) := by decide +kernel
theorem fact2 : genR 0 1 = ([], 1) := by decide +kernel
theorem fact3 : (decR 2 1 [1, 2]).1.length = 2 ∧ (decR 2 1 [1, 2]).2 = 0 := by decide +kernel
theorem fact4 : decR 2 1 [1] = ([], 3) := by decide +kernel
theorem fact5 : decR 2 1 [2, 1] = ([], 1) := by decide +kernel
end Go.Proofs.YtgcfmodgabeocaaDoor.X
