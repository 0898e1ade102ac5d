/-
  Contracts: sheetpileref03.Det, Invert.
-/
import Derived.Test.YtgcfmodgabeocaaDoorC22
namespace Go.Proofs.YtgcfmodgabeocaaDoor.X
open Go.RowKit F
set_option maxRecDepth 100000
set_option linter.unusedSimpArgs false
set_option linter.unusedVariables false

@[simp] theorem binX_B8_zero_ne {P : Program} {t : TypeId} {x : UInt8} : binX P .neq t (B8 x) (.int .u8 0) = some (.bool (!decide (x = 0))) := by
  have hx : ((x.toNat : Int) = 0) ↔ x = 0 := by
    constructor
    · intro h
      exact UInt8.toNat_inj.1 (by simpa using h)
    · rintro rfl; rfl
  simp only [B8]
  rw [binX_int (by decide) (by decide), intX_neq]
  by_cases h : x = 0
  · simp [h]
  · have h1 : ¬ ((x.toNat : Int) = 0) := fun e => h (hx.1 e)
    have : ¬ x.toNat = 0 := by omega
    simp [h, this]
theorem minorL_len {a : Tab} {q c : Nat} (hq : q < a.length) : (minorL a q c).length = a.length - 1 := by simp [minorL, List.length_eraseIdx, hq]
theorem minorL_row {a : Tab} {q c n m : Nat} (hr : ∀ x ∈ a, n + 1 ≤ x.length ∧ x.length < m) : ∀ x ∈ minorL a q c, n ≤ x.length ∧ x.length < m := by
  intro x hx
  obtain ⟨y, hy, rfl⟩ := List.mem_map.1 hx
  have := hr y (List.mem_of_mem_eraseIdx hy)
  rw [List.length_eraseIdx]
  split <;> omega
def DeInv (a : Tab) (n : Nat) (i : Nat) (r : Regs) (_ : Heap) : Prop :=
  i ≤ a.length ∧ rg r 0 = SL a ∧ rg r 3 = B8 (sm i fun i => gm (ent a i 0) (detF n (minorL a i 0))) ∧ rg r 4 = .int .i64 i
/-- A row of the minors' table. -/
def adRow (a : Tab) (i : Nat) : List UInt8 := (List.range a.length).map fun j => gm (gi (detL a)) (detL (minorL a j i))
def AiInv (a : Tab) (i : Nat) (r : Regs) (h : Heap) : Prop :=
  i ≤ a.length ∧ rg r 0 = SL a ∧ rg r 4 = B8 (gi (detL a)) ∧ rg r 7 = .int .i64 i ∧ Own h (rg r 6) (((List.range i).map (adRow a)).map S)
def AjInv (a : Tab) (i : Nat) (x6 : AV) (h0 : Heap) (j : Nat) (r : Regs) (h : Heap) : Prop :=
  j ≤ a.length ∧ rg r 0 = SL a ∧ rg r 4 = B8 (gi (detL a)) ∧ rg r 7 = .int .i64 i ∧ rg r 6 = x6 ∧ rg r 9 = .int .i64 j ∧ Old h0 h ∧ Own h (rg r 8) (((adRow a i).take j).map B8) ∧ ∀ q off n c z, rg r 8 = .sl q off n c z → h0.next ≤ q
theorem invR_adj {a : Tab} (hS : SqP a) : invR a = if detL a = 0 then ([], 2) else ((List.range a.length).map (adRow a), 0) := by
  have hsq := sq_of hS
  have hd := detL_det hsq
  rw [invR, if_pos hS]
  rcases gj_adj hsq with ⟨h0, hn⟩ | ⟨h0, s, hs, hq, he⟩
  · rw [hn, if_pos (by rw [hd]; exact h0)]
  · rw [hs, if_neg (by rw [hd]; exact h0)]
    have : s.2 = (List.range a.length).map (adRow a) := by
      refine tab_ext hq ⟨by simp, fun i hi => by simp [rowN, List.getElem?_range hi, adRow]⟩ fun i j hi hj => ?_
      rw [he i j hi hj]
      simp only [ent, rowN, List.getElem?_map, List.getElem?_range hi, Option.map_some, Option.getD_some, adRow, List.getElem?_range hj]
      rw [detL_adj hsq hi hj, hd]
    show (s.2, (0 : Int)) = _
    rw [this]
end Go.Proofs.YtgcfmodgabeocaaDoor.X
