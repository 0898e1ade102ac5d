/-
  Contracts: conf.within, Check, of, Disks, Capacity; sheetpileref12.Check, of, Capacity.
-/
import Derived.Test.YtgcfmodgabeocaaDoorCA
import Derived.Test.YtgcfmodgabeocaaDoorXB
namespace Go.Proofs.YtgcfmodgabeocaaDoor.X
open Go.RowKit F
set_option maxRecDepth 100000
set_option linter.unusedSimpArgs false
set_option linter.unusedVariables false

/-- A layout. -/
structure Cfg where
  k : Int
  m : Int
  sh : Int
  st : Int
  sl : Int
def CfA (c : Cfg) : AV := .agg [.int .i64 c.k, .int .i64 c.m, .int .i64 c.sh, .int .i64 c.st, .int .i64 c.sl]
def ConfP (c : Cfg) : Prop := GMay c.k c.m ∧ c.m ≠ 0 ∧ (8 ≤ c.sh ∧ c.sh ≤ 1024) ∧ (1 ≤ c.st ∧ c.st ≤ 1000) ∧ (1 ≤ c.sl ∧ c.sl ≤ 16) ∧ c.k * c.sh ≤ 4000
instance (c : Cfg) : Decidable (ConfP c) := by unfold ConfP; exact inferInstance
theorem within_pure (n a b : Int) : CPure Tryd.prog 39 [.int .i64 n, .int .i64 a, .int .i64 b] (.bool (decide (a ≤ n ∧ n ≤ b))) := by
  refine CPure.of_sem (k := 1) ?_
  refine CSem.body hm Tryd.func39 rfl (by kernel_rfl) (by kernel_rfl) (by simp [Tryd.ntmps39]) ?_
  by_cases h1 : a ≤ n
  · simp [Tryd.f39, h1]
  · simp [Tryd.f39, h1]
theorem within_call (n a b : Int) (h : Heap) : CSem Tryd.prog 39 [.int .i64 n, .int .i64 a, .int .i64 b] h fun x' h' => x' = .bool (decide (a ≤ n ∧ n ≤ b)) ∧ h' = h := (within_pure n a b).call (k := 1) (by simp)
theorem mul_small {a b : Int} (h1 : 1 ≤ a) (h2 : a ≤ 255) (h3 : 8 ≤ b) (h4 : b ≤ 1024) : IntKind.i64.wrap (a * b) = a * b := by
  have : a * b ≤ 255 * 1024 := Int.mul_le_mul h2 h4 (by omega) (by omega)
  have : 0 ≤ a * b := Int.mul_nonneg (by omega) (by omega)
  exact wrap64 (by omega) (by omega)
theorem confCheck_pure (c : Cfg) : CPure Tryd.prog 21 [CfA c] (.int .i64 (if ConfP c then 0 else 1)) := by
  refine CPure.of_sem (k := 1) ?_
  refine CSem.body hm Tryd.func21 rfl (by kernel_rfl) (by kernel_rfl) (by simp [Tryd.ntmps21]) ?_
  simp [Tryd.f21, CfA, AV.cells, fieldAddrX, Heap.get_alloc]
  refine (gmay_call _ _ _).use ?_
  by_cases h1 : GMay c.k c.m
  rotate_left
  · have : ¬ ConfP c := fun h => h1 h.1
    simp [h1, this]
  by_cases h2 : c.m = 0
  · have : ¬ ConfP c := fun h => h.2.1 h2
    have h1' : GMay c.k 0 := h2 ▸ h1
    simp [h1, h1', h2, this, fieldAddrX, Heap.get_alloc]
  simp [h1, h2, fieldAddrX, Heap.get_alloc]
  refine (within_call _ _ _ _).use ?_
  by_cases h3 : 8 ≤ c.sh ∧ c.sh ≤ 1024
  rotate_left
  · have : ¬ ConfP c := fun h => h3 h.2.2.1
    simp [h3, this, fieldAddrX, Heap.get_alloc]
  simp [h3, fieldAddrX, Heap.get_alloc]
  refine (within_call _ _ _ _).use ?_
  by_cases h4 : 1 ≤ c.st ∧ c.st ≤ 1000
  rotate_left
  · have : ¬ ConfP c := fun h => h4 h.2.2.2.1
    simp [h4, this, fieldAddrX, Heap.get_alloc]
  simp [h4, fieldAddrX, Heap.get_alloc]
  refine (within_call _ _ _ _).use ?_
  by_cases h5 : 1 ≤ c.sl ∧ c.sl ≤ 16
  rotate_left
  · have : ¬ ConfP c := fun h => h5 h.2.2.2.2.1
    simp [h5, this, fieldAddrX, Heap.get_alloc]
  have hw := mul_small h1.1 h1.2.2.1 h3.1 h3.2
  by_cases h6 : c.k * c.sh ≤ 4000
  · have : ConfP c := ⟨h1, h2, h3, h4, h5, h6⟩
    have h7 : ¬ 4000 < c.k * c.sh := by omega
    simp [h5, this, fieldAddrX, Heap.get_alloc, hw, h7]
  · have : ¬ ConfP c := fun h => h6 h.2.2.2.2.2
    have h7 : 4000 < c.k * c.sh := by omega
    simp [h5, this, fieldAddrX, Heap.get_alloc, hw, h7]
theorem confCheck_call (c : Cfg) (h : Heap) : CSem Tryd.prog 21 [CfA c] h fun x' h' => x' = .int .i64 (if ConfP c then 0 else 1) ∧ h' = h := (confCheck_pure c).call (k := 2) (by simp [CfA, snap, mapL])
theorem confOf_pure (c : Cfg) (n : Int) : CPure Tryd.prog 40 [CfA c, .int .i64 n] (.int .i64 (if ConfP c then n else 0)) := by
  refine CPure.of_sem (k := 1) ?_
  refine CSem.body hm Tryd.func40 rfl (by kernel_rfl) (by kernel_rfl) (by simp [Tryd.ntmps40]) ?_
  simp [Tryd.f40, CfA, AV.cells, loadX_agg, takeN, Heap.get_alloc]
  refine (confCheck_call c _).use ?_
  by_cases h1 : ConfP c <;> simp [h1]
theorem confOf_call (c : Cfg) (n : Int) (h : Heap) : CSem Tryd.prog 40 [CfA c, .int .i64 n] h fun x' h' => x' = .int .i64 (if ConfP c then n else 0) ∧ h' = h := (confOf_pure c n).call (k := 2) (by simp [CfA, snap, mapL])
def confCap (c : Cfg) : Int := if ConfP c then c.k * c.sh - 4 else 0
theorem capW (c : Cfg) : (if ConfP c then IntKind.i64.wrap (IntKind.i64.wrap (c.k * c.sh) - 4) else 0) = confCap c := by
  unfold confCap
  by_cases h : ConfP c
  · rw [if_pos h, if_pos h, mul_small h.1.1 h.1.2.2.1 h.2.2.1.1 h.2.2.1.2, wrap64]
    · have : 0 ≤ c.k * c.sh := Int.mul_nonneg (by have := h.1.1; omega) (by have := h.2.2.1.1; omega)
      omega
    · have := h.2.2.2.2.2; omega
  · rw [if_neg h, if_neg h]
theorem confCap_pure (c : Cfg) : CPure Tryd.prog 22 [CfA c] (.int .i64 (confCap c)) := by
  refine CPure.of_sem (k := 1) ?_
  refine CSem.body hm Tryd.func22 rfl (by kernel_rfl) (by kernel_rfl) (by simp [Tryd.ntmps22]) ?_
  simp [Tryd.f22, CfA, AV.cells, fieldAddrX, loadX_agg, takeN, Heap.get_alloc]
  refine (confOf_call c _ _).use ?_
  simp [capW]
theorem confCap_call (c : Cfg) (h : Heap) : CSem Tryd.prog 22 [CfA c] h fun x' h' => x' = .int .i64 (confCap c) ∧ h' = h := (confCap_pure c).call (k := 2) (by simp [CfA, snap, mapL])
def confDisks (c : Cfg) : Int := if ConfP c then c.k + c.m else 0
theorem disksW (c : Cfg) : (if ConfP c then IntKind.i64.wrap (c.k + c.m) else 0) = confDisks c := by
  unfold confDisks
  by_cases h : ConfP c
  · rw [if_pos h, if_pos h, wrap64]
    · have := h.1.1; have := h.1.2.1; omega
    · have := h.1.2.2; omega
  · rw [if_neg h, if_neg h]
theorem confDisks_pure (c : Cfg) : CPure Tryd.prog 28 [CfA c] (.int .i64 (confDisks c)) := by
  refine CPure.of_sem (k := 1) ?_
  refine CSem.body hm Tryd.func28 rfl (by kernel_rfl) (by kernel_rfl) (by simp [Tryd.ntmps28]) ?_
  simp [Tryd.f28, CfA, AV.cells, fieldAddrX, loadX_agg, takeN, Heap.get_alloc]
  refine (confOf_call c _ _).use ?_
  simp [disksW]
theorem confDisks_call (c : Cfg) (h : Heap) : CSem Tryd.prog 28 [CfA c] h fun x' h' => x' = .int .i64 (confDisks c) ∧ h' = h := (confDisks_pure c).call (k := 2) (by simp [CfA, snap, mapL])

theorem rconfCheck_pure (c : Cfg) : CPure Tryd.prog 18 [CfA c] (.int .i64 (if ConfP c then 0 else 1)) := by
  refine CPure.of_sem (k := 1) ?_
  refine CSem.body hm Tryd.func18 rfl (by kernel_rfl) (by kernel_rfl) (by simp [Tryd.ntmps18]) ?_
  simp [Tryd.f18, CfA, AV.cells, fieldAddrX, Heap.get_alloc]
  refine (rgmay_call _ _ _).use ?_
  by_cases h1 : GMay c.k c.m
  rotate_left
  · have : ¬ ConfP c := fun h => h1 h.1
    simp [h1, this]
  by_cases h2 : c.m = 0
  · have : ¬ ConfP c := fun h => h.2.1 h2
    have h1' : GMay c.k 0 := h2 ▸ h1
    simp [h1, h1', h2, this, fieldAddrX, Heap.get_alloc]
  by_cases h3 : c.sh < 8
  · have : ¬ ConfP c := fun h => by have := h.2.2.1.1; omega
    simp [h1, h2, h3, this, fieldAddrX, Heap.get_alloc]
  by_cases h4 : 1024 < c.sh
  · have : ¬ ConfP c := fun h => by have := h.2.2.1.2; omega
    simp [h1, h2, h3, h4, this, fieldAddrX, Heap.get_alloc]
  by_cases h5 : c.st < 1
  · have : ¬ ConfP c := fun h => by have := h.2.2.2.1.1; omega
    simp [h1, h2, h3, h4, h5, this, fieldAddrX, Heap.get_alloc]
  by_cases h6 : 1000 < c.st
  · have : ¬ ConfP c := fun h => by have := h.2.2.2.1.2; omega
    simp [h1, h2, h3, h4, h5, h6, this, fieldAddrX, Heap.get_alloc]
  by_cases h7 : c.sl < 1
  · have : ¬ ConfP c := fun h => by have := h.2.2.2.2.1.1; omega
    simp [h1, h2, h3, h4, h5, h6, h7, this, fieldAddrX, Heap.get_alloc]
  by_cases h8 : 16 < c.sl
  · have : ¬ ConfP c := fun h => by have := h.2.2.2.2.1.2; omega
    simp [h1, h2, h3, h4, h5, h6, h7, h8, this, fieldAddrX, Heap.get_alloc]
  have hw := mul_small h1.1 h1.2.2.1 (show 8 ≤ c.sh by omega) (show c.sh ≤ 1024 by omega)
  by_cases h9 : 4000 < c.k * c.sh
  · have : ¬ ConfP c := fun h => by have := h.2.2.2.2.2; omega
    simp [h1, h2, h3, h4, h5, h6, h7, h8, hw, h9, this, fieldAddrX, Heap.get_alloc]
  · have : ConfP c := ⟨h1, h2, ⟨by omega, by omega⟩, ⟨by omega, by omega⟩, ⟨by omega, by omega⟩, by omega⟩
    simp [h1, h2, h3, h4, h5, h6, h7, h8, hw, h9, this, fieldAddrX, Heap.get_alloc]
theorem rconfCheck_call (c : Cfg) (h : Heap) : CSem Tryd.prog 18 [CfA c] h fun x' h' => x' = .int .i64 (if ConfP c then 0 else 1) ∧ h' = h := (rconfCheck_pure c).call (k := 2) (by simp [CfA, snap, mapL])
theorem rconfOf_pure (c : Cfg) (n : Int) : CPure Tryd.prog 36 [CfA c, .int .i64 n] (.int .i64 (if ConfP c then n else 0)) := by
  refine CPure.of_sem (k := 1) ?_
  refine CSem.body hm Tryd.func36 rfl (by kernel_rfl) (by kernel_rfl) (by simp [Tryd.ntmps36]) ?_
  simp [Tryd.f36, CfA, AV.cells, loadX_agg, takeN, Heap.get_alloc]
  refine (rconfCheck_call c _).use ?_
  by_cases h1 : ConfP c <;> simp [h1]
theorem rconfOf_call (c : Cfg) (n : Int) (h : Heap) : CSem Tryd.prog 36 [CfA c, .int .i64 n] h fun x' h' => x' = .int .i64 (if ConfP c then n else 0) ∧ h' = h := (rconfOf_pure c n).call (k := 2) (by simp [CfA, snap, mapL])
theorem rconfCap_pure (c : Cfg) : CPure Tryd.prog 19 [CfA c] (.int .i64 (confCap c)) := by
  refine CPure.of_sem (k := 1) ?_
  refine CSem.body hm Tryd.func19 rfl (by kernel_rfl) (by kernel_rfl) (by simp [Tryd.ntmps19]) ?_
  simp [Tryd.f19, CfA, AV.cells, fieldAddrX, loadX_agg, takeN, Heap.get_alloc]
  refine (rconfOf_call c _ _).use ?_
  simp [capW]
theorem rconfCap_call (c : Cfg) (h : Heap) : CSem Tryd.prog 19 [CfA c] h fun x' h' => x' = .int .i64 (confCap c) ∧ h' = h := (rconfCap_pure c).call (k := 2) (by simp [CfA, snap, mapL])
end Go.Proofs.YtgcfmodgabeocaaDoor.X
