/-
  sheetpilelaw13.tiny; StripeSplits.
-/
import Derived.Test.YtgcfmodgabeocaaDoorE11
import Derived.Test.YtgcfmodgabeocaaDoorXRowC
namespace Go.Proofs.YtgcfmodgabeocaaDoor.X
open Go.RowKit F
set_option maxRecDepth 100000
set_option linter.unusedSimpArgs false
set_option linter.unusedVariables false

theorem live13_call (h : Heap) : CSem Tryd.prog 9 [] h fun x' h' => x' = .bool true ∧ h' = h := live13_pure.call (k := 1) (by simp)
theorem out13 (h : Heap) (K : AV → Heap → Prop) (hK : K (.bool true) h) : Call Tryd.prog 9 [] h K := (live13_call h).use hK
def TinyP (c : Cfg) : Prop := ¬ ConfP c ∨ (c.k + c.m ≤ 12 ∧ c.sh ≤ 40)
instance (c : Cfg) : Decidable (TinyP c) := by unfold TinyP; exact inferInstance
theorem tiny_pure (c : Cfg) : CPure Tryd.prog 8 [CfA c] (.bool (decide (TinyP c))) := by
  refine CPure.of_sem (k := 1) ?_
  refine CSem.body hm Tryd.func8 rfl (by kernel_rfl) (by kernel_rfl) (by simp [Tryd.ntmps8]) ?_
  simp [Tryd.f8, CfA, AV.cells, loadX_agg, takeN, Heap.get_alloc]
  refine (rconfCheck_call c _).use ?_
  by_cases hC : ConfP c
  rotate_left
  · simp [hC, TinyP]
  have hkm : IntKind.i64.wrap (c.k + c.m) = c.k + c.m := by
    have h1 := hC.1
    exact wrap64 (by have := h1.1; have := h1.2.1; omega) (by have := h1.2.2; omega)
  by_cases h1 : c.k + c.m ≤ 12
  · simp [hC, TinyP, fieldAddrX, Heap.get_alloc, hkm, h1]
  · simp [hC, TinyP, fieldAddrX, Heap.get_alloc, hkm, h1]
theorem tiny_call (c : Cfg) (h : Heap) : CSem Tryd.prog 8 [CfA c] h fun x' h' => x' = .bool (decide (TinyP c)) ∧ h' = h := (tiny_pure c).call (k := 2) (by simp [CfA])
theorem stripeSplits_pure (c : Cfg) (data : List UInt8) (_ : CfW c) (hd : data.length < 2 ^ 63) : CPure Tryd.prog 3 [CfA c, S data] (.bool true) := by
  refine CPure.of_sem (k := 1) ?_
  refine CSem.body hm Tryd.func3 rfl (by kernel_rfl) (by kernel_rfl) (by simp [Tryd.ntmps3]) ?_
  simp [Tryd.f3, CfA, AV.cells, loadX_agg, takeN, Heap.get_alloc]
  refine (tiny_call c _).use ?_
  by_cases hT : TinyP c
  rotate_left
  · simp [hT]
    refine out13 _ _ ?_
    simp
  by_cases hL : (5000 : Int) < data.length
  · simp [hT, hL]
    refine out13 _ _ ?_
    simp
  simp [hT, hL, CfA, AV.cells, loadX_agg, takeN, Heap.get_alloc]
  refine (split_callS c data (by omega) _).use ?_
  simp [rL, CfA, AV.cells, loadX_agg, takeN, Heap.get_alloc]
  refine (rsplit_callS c data (by omega) _).use ?_
  simp [rL]
  have hlen : (splR c data).1.length < 2 ^ 60 := by
    unfold splR
    split
    · split
      · simp
      · have := encR_len (data := splL c data) (m := c.m); omega
    · simp
  refine (same_call (splR c data).1 (splR c data).1 hlen (by simp) (by simp)).use ?_
  simp
  refine out13 _ _ ?_
  simp
end Go.Proofs.YtgcfmodgabeocaaDoor.X
