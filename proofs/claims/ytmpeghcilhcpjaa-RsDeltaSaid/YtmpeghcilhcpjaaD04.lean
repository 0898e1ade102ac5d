/-
  sheetpilelaw03.live, and the laws MatMuls, MatInverts.
-/
import Derived.Test.YtmpeghcilhcpjaaC21
import Derived.Test.YtmpeghcilhcpjaaC23
namespace Go.Proofs.Ytmpeghcilhcpjaa.X
open Go.RowKit F
set_option maxRecDepth 100000
set_option linter.unusedSimpArgs false
set_option linter.unusedVariables false

section
variable {h : Heap} {x y : AV}
theorem invert_callS {a : Tab} (hx : snap h true 2 x = some (SL a)) : CSem Try.prog 40 [x] h fun x' h' => x' = rL (invR a).1 (invR a).2 ∧ h' = h := (invert_fresh a).pure.call (k := 2) (by simp [hx])
theorem mul_callS {a b : Tab} (hx : snap h true 2 x = some (SL a)) (hy : snap h true 2 y = some (SL b)) : CSem Try.prog 36 [x, y] h fun x' h' => x' = rL (mulR a b).1 (mulR a b).2 ∧ h' = h := (mulT_fresh a b).pure.call (k := 2) (by simp [hx, hy])
theorem pick_callS {a : Tab} {l : List Int} (hx : snap h true 2 x = some (SL a)) (hy : snap h true 2 y = some (IL l)) : CSem Try.prog 37 [x, y] h fun x' h' => x' = rL (pickR a l).1 (pickR a l).2 ∧ h' = h := (pick_fresh a l).pure.call (k := 2) (by simp [hx, hy])
theorem may_callS {a : Tab} (hx : snap h true 2 x = some (SL a)) : CSem Try.prog 38 [x] h fun x' h' => x' = .bool (decide (MayP a)) ∧ h' = h := (may_pure a).call (k := 2) (by simp [hx])
theorem ident_callT (n : Int) : CSem Try.prog 42 [.int .i64 n] h fun x' h' => x' = rL (identR n).1 (identR n).2 ∧ h' = h := (ident_fresh n).pure.call (k := 1) (by simp)
end
theorem l3a : invR [[2]] = ([[0x8e]], 0) := by decide +kernel
theorem l3b : invR [[1, 2], [2, 4]] = ([], 2) := by decide +kernel
theorem l3c : mulR [[97, 98]] [[97]] = ([], 1) := by decide +kernel
theorem l3d : identR 2 = ([[1, 0], [0, 1]], 0) := by decide +kernel
theorem l3e : pickR [[97, 98], [99, 100]] [1, 0, 1] = ([[99, 100], [97, 98], [99, 100]], 0) := by decide +kernel
theorem live03_pure : CPure Try.prog 35 [] (.bool true) := by
  refine CPure.of_sem (k := 1) ?_
  refine CSem.body hm Try.func35 rfl (by kernel_rfl) (by kernel_rfl) (by simp [Try.ntmps35]) ?_
  have bs1 := fun (h : Heap) (y : AV) (hy : y.atom = true) => buildSlice_one (P := Try.prog) (h := h) (t := 24) (xt := 24) (by kernel_rfl) hy
  have bs2 := fun (h : Heap) (y1 y2 : AV) (hy : y1.atom = true) (hz : y2.atom = true) => buildSlice_two (P := Try.prog) (h := h) (t := 24) (xt := 24) (by kernel_rfl) hy hz
  have bs3 := fun (h : Heap) (y1 y2 y3 : AV) (hy : y1.atom = true) (hz : y2.atom = true) (hu : y3.atom = true) => buildSlice_three (P := Try.prog) (h := h) (t := 24) (xt := 24) (by kernel_rfl) hy hz hu
  have bi3 := fun (h : Heap) (y1 y2 y3 : AV) (hy : y1.atom = true) (hz : y2.atom = true) (hu : y3.atom = true) => buildSlice_three (P := Try.prog) (h := h) (t := 29) (xt := 29) (by kernel_rfl) hy hz hu
  simp [Try.f35, bs1, bs2, bs3, bi3]
  refine (invert_callS (a := [[2]]) (by kernel_rfl)).use ?_
  simp [l3a, rL, bs1, bs2, bs3, bi3]
  refine (invert_callS (a := [[1, 2], [2, 4]]) (by kernel_rfl)).use ?_
  simp [l3b, rL, bs1, bs2, bs3, bi3]
  refine (mul_callS (a := [[97, 98]]) (b := [[97]]) (by kernel_rfl) (by kernel_rfl)).use ?_
  simp [l3c, rL, bs1, bs2, bs3, bi3]
  refine (ident_callT 2).use ?_
  simp [l3d, rL, bs1, bs2, bs3, bi3]
  refine (pick_callS (a := [[97, 98], [99, 100]]) (l := [1, 0, 1]) (by kernel_rfl) (by kernel_rfl)).use ?_
  simp [l3e, rL, bs1, bs2, bs3, bi3]
  refine (same_call [[0x8e]] [[0x8e]] (by decide) (by kernel_rfl) (by kernel_rfl)).use ?_
  simp [rL, bs1, bs2, bs3, bi3]
  refine (same_call [[1, 0], [0, 1]] [[1, 0], [0, 1]] (by decide) (by kernel_rfl) (by kernel_rfl)).use ?_
  simp [rL, bs1, bs2, bs3, bi3]
  refine (same_call [[99, 100], [97, 98], [99, 100]] [[99, 100], [97, 98], [99, 100]] (by decide) (by kernel_rfl) (by kernel_rfl)).use ?_
  simp [rL, bs1, bs2, bs3, bi3]
  refine (may_callS (a := [[1, 0], [0, 1]]) (by kernel_rfl)).use ?_
  have m1 : MayP [[1, 0], [0, 1]] := by decide
  have m2 : ¬ MayP [] := by decide
  simp [m1]
  refine (may_callS (a := []) (by kernel_rfl)).use ?_
  simp [m2]
theorem live03_call (h : Heap) : CSem Try.prog 35 [] h fun x' h' => x' = .bool true ∧ h' = h := live03_pure.call (k := 1) (by simp)
theorem out03 (h : Heap) (K : AV → Heap → Prop) (hK : K (.bool true) h) : Call Try.prog 35 [] h K := (live03_call h).use hK

theorem mulR_len {a b : Tab} : (mulR a b).1.length ≤ a.length := by
  unfold mulR
  split <;> simp
theorem pickR_len {a : Tab} {l : List Int} : (pickR a l).1.length ≤ l.length := by
  unfold pickR
  split <;> simp
theorem matMuls_pure (a b : Tab) (rows : List Int) (ha : a.length < 2 ^ 48) (_ : ∀ x ∈ a, x.length < 2 ^ 63) (hb : b.length < 2 ^ 48) (_ : ∀ x ∈ b, x.length < 2 ^ 63) (hr : rows.length < 2 ^ 48) (_ : ∀ x ∈ rows, (Lit.int .i64 x).wf = true) :
    CPure Try.prog 9 [SL a, SL b, IL rows] (.bool true) := by
  refine CPure.of_sem (k := 1) ?_
  refine CSem.body hm Try.func9 rfl (by kernel_rfl) (by kernel_rfl) (by simp [Try.ntmps9]) ?_
  simp [Try.f9]
  refine (small_call a _ _ (by omega) _).use ?_
  by_cases h1 : SmallP a 12 12
  rotate_left
  · simp [h1]
    refine out03 _ _ ?_
    simp
  simp [h1]
  refine (small_call b _ _ (by omega) _).use ?_
  by_cases h2 : SmallP b 12 12
  rotate_left
  · simp [h2]
    refine out03 _ _ ?_
    simp
  by_cases h3 : (300 : Int) < rows.length
  · simp [h2, h3]
    refine out03 _ _ ?_
    simp
  simp [h2, h3]
  refine (mulT_call a b _).use ?_
  simp [rL]
  refine (rmulT_call a b (by simp) (by simp)).use ?_
  simp [rL]
  refine (pick_call a rows _).use ?_
  simp [rL]
  refine (rpick_call a rows _).use ?_
  simp [rL]
  refine (may_call a _).use ?_
  simp
  refine (rmay_call a _).use ?_
  simp
  have l1 := mulR_len (a := a) (b := b)
  have l2 := pickR_len (a := a) (l := rows)
  refine (same_call (mulR a b).1 (mulR a b).1 (by omega) (by simp) (by simp)).use ?_
  simp
  refine (same_call (pickR a rows).1 (pickR a rows).1 (by omega) (by simp) (by simp)).use ?_
  simp
  refine out03 _ _ ?_
  simp
theorem invR_len {a : Tab} : (invR a).1.length ≤ a.length := by
  by_cases hS : SqP a
  · rw [invR_adj hS]
    split <;> simp
  · simp [invR, hS]
theorem identR_len {n : Int} : (identR n).1.length ≤ 255 := by
  unfold identR
  split
  · rename_i h
    have := h.2
    simp [identL]
    omega
  · simp
theorem matInverts_pure (a : Tab) (n : Int) (ha : a.length < 2 ^ 48) (_ : ∀ x ∈ a, x.length < 2 ^ 63) (_ : (Lit.int .i64 n).wf = true) : CPure Try.prog 10 [SL a, .int .i64 n] (.bool true) := by
  refine CPure.of_sem (k := 1) ?_
  refine CSem.body hm Try.func10 rfl (by kernel_rfl) (by kernel_rfl) (by simp [Try.ntmps10]) ?_
  simp [Try.f10]
  refine (small_call a _ _ (by omega) _).use ?_
  by_cases h1 : SmallP a 5 5
  rotate_left
  · simp [h1]
    refine out03 _ _ ?_
    simp
  by_cases h3 : (300 : Int) < n
  · simp [h1, h3]
    refine out03 _ _ ?_
    simp
  simp [h1, h3]
  refine (invert_call a _).use ?_
  simp [rL]
  refine (rinvert_call a _).use ?_
  simp [rL]
  refine (ident_callT n).use ?_
  simp [rL]
  refine (rident_call n _).use ?_
  simp [rL]
  have l1 := invR_len (a := a)
  have l2 := identR_len (n := n)
  refine (same_call (invR a).1 (invR a).1 (by omega) (by simp) (by simp)).use ?_
  simp
  refine (same_call (identR n).1 (identR n).1 (by omega) (by simp) (by simp)).use ?_
  simp
  refine out03 _ _ ?_
  simp
end Go.Proofs.Ytmpeghcilhcpjaa.X
