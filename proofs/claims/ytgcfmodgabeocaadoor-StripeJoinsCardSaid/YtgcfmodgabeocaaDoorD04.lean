/-
  sheetpilelaw03.live, and the laws MatMuls, MatInverts.
-/
import Derived.Test.YtgcfmodgabeocaaDoorC21
import Derived.Test.YtgcfmodgabeocaaDoorC23
namespace Go.Proofs.YtgcfmodgabeocaaDoor.X
open Go.RowKit F
set_option maxRecDepth 100000
set_option linter.unusedSimpArgs false
set_option linter.unusedVariables false

section
variable {h : Heap} {x y : AV}
theorem invert_callS {a : Tab} (hx : snap h true 2 x = some (SL a)) : CSem Tryd.prog 72 [x] h fun x' h' => x' = rL (invR a).1 (invR a).2 ∧ h' = h := (invert_fresh a).pure.call (k := 2) (by simp [hx])
theorem pick_callS {a : Tab} {l : List Int} (hx : snap h true 2 x = some (SL a)) (hy : snap h true 2 y = some (IL l)) : CSem Tryd.prog 71 [x, y] h fun x' h' => x' = rL (pickR a l).1 (pickR a l).2 ∧ h' = h := (pick_fresh a l).pure.call (k := 2) (by simp [hx, hy])
theorem may_callS {a : Tab} (hx : snap h true 2 x = some (SL a)) : CSem Tryd.prog 87 [x] h fun x' h' => x' = .bool (decide (MayP a)) ∧ h' = h := (may_pure a).call (k := 2) (by simp [hx])
theorem ident_callT (n : Int) : CSem Tryd.prog 61 [.int .i64 n] h fun x' h' => x' = rL (identR n).1 (identR n).2 ∧ h' = h := (ident_fresh n).pure.call (k := 1) (by simp)
end
theorem l3a : invR [[2]] = ([[0x8e]], 0) := by decide +kernel
theorem l3b : invR [[1, 2], [2, 4]] = ([], 2) := by decide +kernel
theorem l3c : mulR [[97, 98]] [[97]] = ([], 1) := by decide +kernel
theorem l3d : identR 2 = ([[1, 0], [0, 1]], 0) := by decide +kernel
theorem l3e : pickR [[97, 98], [99, 100]] [1, 0, 1] = ([[99, 100], [97, 98], [99, 100]], 0) := by decide +kernel
theorem mulR_len {a b : Tab} : (mulR a b).1.length ≤ a.length := by
  unfold mulR
  split <;> simp
theorem pickR_len {a : Tab} {l : List Int} : (pickR a l).1.length ≤ l.length := by
  unfold pickR
  split <;> simp
theorem invR_len {a : Tab} : (invR a).1.length ≤ a.length := by
  by_cases hS : SqP a
  · rw [invR_adj hS]
    split <;> simp
  · simp [invR, hS]
theorem identR_len {n : Int} : (identR n).1.length ≤ 255 := by
  unfold identR
  split
  · rename_i h
    have := h.2
    simp [identL]
    omega
  · simp
end Go.Proofs.YtgcfmodgabeocaaDoor.X
