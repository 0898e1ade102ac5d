/-
  sheetpilelaw04.live.
-/
import Derived.Test.YtmpeghcilhcpjaaCA
namespace Go.Proofs.Ytmpeghcilhcpjaa.X
open Go.RowKit F
set_option maxRecDepth 100000
set_option linter.unusedSimpArgs false
set_option linter.unusedVariables false

@[simp] theorem str_S (l : List UInt8) : AV.str { data := l.toArray } = S l := id rfl
theorem dec_callS (k m : Int) (l : List Int) (hl : l.length < 2 ^ 60) {h : Heap} {x : AV} (hx : snap h true 2 x = some (IL l)) : CSem Try.prog 28 [.int .i64 k, .int .i64 m, x] h fun x' h' => x' = rL (decR k m l).1 (decR k m l).2 ∧ h' = h :=
  (dec_fresh k m l hl).pure.call (k := 2) (by simp [hx])
theorem fact1 : genR 2 1 = ([[1, 0], [0, 1], [0x8e, 0xf4]], 0) := by decide +kernel
theorem fact2 : genR 0 1 = ([], 1) := by decide +kernel
theorem fact3 : (decR 2 1 [1, 2]).1.length = 2 ∧ (decR 2 1 [1, 2]).2 = 0 := by decide +kernel
theorem fact4 : decR 2 1 [1] = ([], 3) := by decide +kernel
theorem fact5 : decR 2 1 [2, 1] = ([], 1) := by decide +kernel
theorem live04_pure : CPure Try.prog 24 [] (.bool true) := by
  refine CPure.of_sem (k := 1) ?_
  refine CSem.body hm Try.func24 rfl (by kernel_rfl) (by kernel_rfl) (by simp [Try.ntmps24]) ?_
  simp [Try.f24]
  refine (gen_call _ _ _).use ?_
  simp [fact1, rL]
  refine (gen_call _ _ _).use ?_
  simp [fact2, rL, buildSlice_two (P := Try.prog) (t := 29) (xt := 29) (by kernel_rfl)]
  refine (dec_callS 2 1 [1, 2] (by decide) (snap_own (f := I64) (l := [1, 2]) (Heap.get_alloc_same _ _) rfl (fun _ => rfl))).use ?_
  simp [rL, fact3, buildSlice_one (P := Try.prog) (t := 29) (xt := 29) (by kernel_rfl)]
  refine (dec_callS 2 1 [1] (by decide) (snap_own (f := I64) (l := [1]) (Heap.get_alloc_same _ _) rfl (fun _ => rfl))).use ?_
  simp [rL, fact4, buildSlice_two (P := Try.prog) (t := 29) (xt := 29) (by kernel_rfl)]
  refine (dec_callS 2 1 [2, 1] (by decide) (snap_own (f := I64) (l := [2, 1]) (Heap.get_alloc_same _ _) rfl (fun _ => rfl))).use ?_
  simp [rL, fact5, buildSlice_three (P := Try.prog) (t := 24) (xt := 24) (by kernel_rfl)]
  have hs : snap ((((Heap.empty.alloc [I64 1, I64 2]).alloc [I64 1]).alloc [I64 2, I64 1]).alloc [S [1, 0], S [0, 1], S [142, 244]]) true 2 (.sl 3 0 3 3 1) = some (SL [[1, 0], [0, 1], [142, 244]]) :=
    snap_own (f := S) (l := [[1, 0], [0, 1], [142, 244]]) (Heap.get_alloc_same _ _) rfl (fun _ => rfl)
  refine (same_call [[1, 0], [0, 1], [142, 244]] [[1, 0], [0, 1], [142, 244]] (by decide) (by simp) hs).use ?_
  simp [fact3]
  refine (gmay_call _ _ _).use ?_
  have g1 : GMay 254 1 := by decide
  have g2 : ¬ GMay 255 1 := by decide
  simp [g1]
  refine (gmay_call _ _ _).use ?_
  simp [g2]
theorem live04_call (h : Heap) : CSem Try.prog 24 [] h fun x' h' => x' = .bool true ∧ h' = h := live04_pure.call (k := 1) (by simp)
end Go.Proofs.Ytmpeghcilhcpjaa.X
