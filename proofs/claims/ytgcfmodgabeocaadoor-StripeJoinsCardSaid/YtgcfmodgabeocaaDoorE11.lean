/-
  sheetpilelaw13.live, tiny; StripeSplits.
-/
import Derived.Test.YtgcfmodgabeocaaDoorE10
namespace Go.Proofs.YtgcfmodgabeocaaDoor.X
open Go.RowKit F
set_option maxRecDepth 100000
set_option linter.unusedSimpArgs false
set_option linter.unusedVariables false

theorem sm_small' {l : Tab} (h1 : l.length < 100) (h2 : ∀ x ∈ l, x.length < 100) : Sm l := ⟨by omega, fun x hx => by have := h2 x hx; omega⟩
theorem sjoin_callS (c : Cfg) (l : Tab) (have_ : List Bool) (h : Sm l) (hk : (Lit.int .i64 c.k).wf = true) (hh : have_.length < 2 ^ 48) (hfl : (decD c.k l have_).1.flatten.length < 2 ^ 46) {hp : Heap} {x y : AV} (hx : snap hp true 2 x = some (SL l)) (hy : snap hp true 2 y = some (OL have_)) :
    CSem Tryd.prog 14 [CfA c, x, y] hp fun x' h' => x' = joinA c l have_ ∧ h' = hp := (sjoin_pure c l have_ h hk hh hfl).call (k := 2) (by simp [hx, hy, CfA])
def c0 : Cfg := ⟨1, 1, 8, 1, 1⟩
theorem l13a : splR c0 [97, 98] = ([[2, 0, 0, 0, 97, 98, 0, 0], [2, 0, 0, 0, 97, 98, 0, 0]], 0) := by decide +kernel
theorem l13b : joinR c0 [[], [2, 0, 0, 0, 97, 98, 0, 0]] [false, true] = ([97, 98], 0) := by decide +kernel
theorem l13c : splR c0 [97, 98, 99, 100, 101] = ([], 12) := by decide +kernel
theorem l13d : joinR c0 [[2, 0, 0, 0, 97, 98, 0, 0], [2, 0, 0, 0, 97, 98, 0, 0]] [false, false] = ([], 3) := by decide +kernel
theorem l13e : joinR c0 [[255, 0, 0, 0, 97, 98, 0, 0], []] [true, false] = ([], 5) := by decide +kernel
theorem d13b : (decD c0.k [[], [2, 0, 0, 0, 97, 98, 0, 0]] [false, true]).1.flatten.length < 2 ^ 46 := by decide +kernel
theorem d13d : (decD c0.k [[2, 0, 0, 0, 97, 98, 0, 0], [2, 0, 0, 0, 97, 98, 0, 0]] [false, false]).1.flatten.length < 2 ^ 46 := by decide +kernel
theorem d13e : (decD c0.k [[255, 0, 0, 0, 97, 98, 0, 0], []] [true, false]).1.flatten.length < 2 ^ 46 := by decide +kernel
theorem live13_pure : CPure Tryd.prog 9 [] (.bool true) := by
  refine CPure.of_sem (k := 1) ?_
  refine CSem.body hm Tryd.func9 rfl (by kernel_rfl) (by kernel_rfl) (by simp [Tryd.ntmps9]) ?_
  have bs2 := fun (h : Heap) (y1 y2 : AV) (hy : y1.atom = true) (hz : y2.atom = true) => buildSlice_two (P := Tryd.prog) (h := h) (t := 26) (xt := 26) (by kernel_rfl) hy hz
  have bo2 := fun (h : Heap) (y1 y2 : AV) (hy : y1.atom = true) (hz : y2.atom = true) => buildSlice_two (P := Tryd.prog) (h := h) (t := 32) (xt := 32) (by kernel_rfl) hy hz
  have hc0 : CfA c0 = .agg [.int .i64 1, .int .i64 1, .int .i64 8, .int .i64 1, .int .i64 1] := rfl
  have hb : buildX Tryd.prog 23 [(0, .int .i64 1), (1, .int .i64 1), (2, .int .i64 8), (3, .int .i64 1), (4, .int .i64 1)] = some (CfA c0) := by kernel_rfl
  have hst : ∀ h : Heap, h.get 0 = some (List.replicate 5 (.int .i64 0)) → storeX Tryd.prog h 23 (.ptr 0 0) (CfA c0) = some (h.put 0 [.int .i64 1, .int .i64 1, .int .i64 8, .int .i64 1, .int .i64 1]) := by
    intro h hg
    rw [hc0, storeX_agg, hg]
    simp [putN]
  have hz : (Heap.empty.alloc (List.replicate 5 (.int .i64 0))).get 0 = some (List.replicate 5 (.int .i64 0)) := Heap.get_alloc_same _ _
  have hload : ∀ h : Heap, h.get 0 = some [.int .i64 1, .int .i64 1, .int .i64 8, .int .i64 1, .int .i64 1] → loadX Tryd.prog h 23 (.ptr 0 0) = some (CfA c0) := by
    intro h hg
    rw [loadX_agg (by simp), hg]
    simp [takeN, hc0]
  simp [Tryd.f9, hb]
  have e1 := hst _ hz
  simp only [List.replicate] at e1
  simp [e1, AV.cells]
  generalize hH : Heap.put _ _ _ = H0
  have k0 : H0.get 0 = some [.int .i64 1, .int .i64 1, .int .i64 8, .int .i64 1, .int .i64 1] := by rw [← hH]; exact Heap.get_put_same (Heap.get_alloc_same _ _)
  simp [hload _ k0]
  have wf1 : (Lit.int .i64 c0.k).wf = true := by decide
  refine (split_callS c0 [97, 98] (by decide) _).use ?_
  rw [l13a]
  simp [rL, hload _ k0, bs2, bo2]
  obtain ⟨H1, hH1⟩ : ∃ H1, H1 = H0.alloc [S [], S [2, 0, 0, 0, 97, 98, 0, 0]] := ⟨_, rfl⟩
  obtain ⟨H2, hH2⟩ : ∃ H2, H2 = H1.alloc [.bool false, .bool true] := ⟨_, rfl⟩
  have n1 : H1.next = H0.next + 1 := by rw [hH1]; rfl
  have x2 : snap H2 true 2 (.sl H0.next 0 2 2 1) = some (SL [[], [2, 0, 0, 0, 97, 98, 0, 0]]) := by rw [hH2, hH1]; exact snap_own (f := S) (l := [[], [2, 0, 0, 0, 97, 98, 0, 0]]) (Heap.get_alloc_old (Heap.get_alloc_same _ _)) rfl (fun _ => rfl)
  have y2 : snap H2 true 2 (.sl (H0.next + 1) 0 2 2 1) = some (OL [false, true]) := by rw [← n1, hH2]; exact snap_own (f := .bool) (l := [false, true]) (Heap.get_alloc_same _ _) rfl (fun _ => rfl)
  have k2 : H2.get 0 = some [.int .i64 1, .int .i64 1, .int .i64 8, .int .i64 1, .int .i64 1] := by rw [hH2, hH1]; exact Heap.get_alloc_old (Heap.get_alloc_old k0)
  rw [← hH1, ← hH2]
  refine (sjoin_callS c0 [[], [2, 0, 0, 0, 97, 98, 0, 0]] [false, true] (sm_small' (by decide) (by decide)) wf1 (by decide) d13b x2 y2).use ?_
  rw [joinA, l13b]
  simp [hload _ k2]
  refine (split_callS c0 [97, 98, 99, 100, 101] (by decide) _).use ?_
  rw [l13c]
  simp [rL, hload _ k2, bs2, bo2]
  obtain ⟨H3, hH3⟩ : ∃ H3, H3 = H2.alloc [.bool false, .bool false] := ⟨_, rfl⟩
  have y3 : snap H3 true 2 (.sl H2.next 0 2 2 1) = some (OL [false, false]) := by rw [hH3]; exact snap_own (f := .bool) (l := [false, false]) (Heap.get_alloc_same _ _) rfl (fun _ => rfl)
  have k3 : H3.get 0 = some [.int .i64 1, .int .i64 1, .int .i64 8, .int .i64 1, .int .i64 1] := by rw [hH3]; exact Heap.get_alloc_old k2
  rw [← hH3]
  refine (sjoin_callS c0 [[2, 0, 0, 0, 97, 98, 0, 0], [2, 0, 0, 0, 97, 98, 0, 0]] [false, false] (sm_small' (by decide) (by decide)) wf1 (by decide) d13d (by simp) y3).use ?_
  rw [joinA, l13d]
  simp [hload _ k3, bs2, bo2]
  obtain ⟨H4, hH4⟩ : ∃ H4, H4 = H3.alloc [S [255, 0, 0, 0, 97, 98, 0, 0], S []] := ⟨_, rfl⟩
  obtain ⟨H5, hH5⟩ : ∃ H5, H5 = H4.alloc [.bool true, .bool false] := ⟨_, rfl⟩
  have n4 : H4.next = H3.next + 1 := by rw [hH4]; rfl
  have x5 : snap H5 true 2 (.sl H3.next 0 2 2 1) = some (SL [[255, 0, 0, 0, 97, 98, 0, 0], []]) := by rw [hH5, hH4]; exact snap_own (f := S) (l := [[255, 0, 0, 0, 97, 98, 0, 0], []]) (Heap.get_alloc_old (Heap.get_alloc_same _ _)) rfl (fun _ => rfl)
  have y5 : snap H5 true 2 (.sl (H3.next + 1) 0 2 2 1) = some (OL [true, false]) := by rw [← n4, hH5]; exact snap_own (f := .bool) (l := [true, false]) (Heap.get_alloc_same _ _) rfl (fun _ => rfl)
  rw [← hH4, ← hH5]
  refine (sjoin_callS c0 [[255, 0, 0, 0, 97, 98, 0, 0], []] [true, false] (sm_small' (by decide) (by decide)) wf1 (by decide) d13e x5 y5).use ?_
  rw [joinA, l13e]
  simp [bs2, bo2]
  refine (same_call [[2, 0, 0, 0, 97, 98, 0, 0], [2, 0, 0, 0, 97, 98, 0, 0]] [[2, 0, 0, 0, 97, 98, 0, 0], [2, 0, 0, 0, 97, 98, 0, 0]] (by decide) (by simp) (snap_own (f := S) (l := [[2, 0, 0, 0, 97, 98, 0, 0], [2, 0, 0, 0, 97, 98, 0, 0]]) (Heap.get_alloc_same _ _) rfl (fun _ => rfl))).use ?_
  simp
end Go.Proofs.YtgcfmodgabeocaaDoor.X
