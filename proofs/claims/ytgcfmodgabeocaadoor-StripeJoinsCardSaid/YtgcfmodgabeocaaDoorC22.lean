/-
  Contracts: sheetpileref03.minor, Det, Invert.
-/
import Derived.Test.YtgcfmodgabeocaaDoorCA
import Derived.Test.YtgcfmodgabeocaaDoorXB
namespace Go.Proofs.YtgcfmodgabeocaaDoor.X
open Go.RowKit F
set_option maxRecDepth 100000
set_option linter.unusedSimpArgs false
set_option linter.unusedVariables false

theorem extract_list (l : List UInt8) (a b : Nat) : (⟨l.toArray⟩ : ByteArray).extract a b = ⟨((l.take b).drop a).toArray⟩ := by
  apply ByteArray.ext
  apply Array.ext'
  rw [ByteArray.data_extract, Array.toList_extract]
  simp [List.drop_take]
@[simp] theorem sliceX_S {P : Program} {t : TypeId} (ht : strT P t = true) {l : List UInt8} {lo hi : Option AV} :
    sliceX P t (S l) lo hi none = (boundX l.length hi l.length).bind fun b => (boundX b lo 0).map fun a => S ((l.take b).drop a) := by
  simp only [sliceX, strT_und ht, S]
  simp [ByteArray.size]
  cases boundX l.length hi l.length with
  | none => rfl
  | some b =>
    simp only [Option.bind_some]
    cases boundX b lo 0 with
    | none => rfl
    | some a =>
      simp
      exact extract_list l a b
/-- A single list of texts that is new. -/
theorem CPure.of_own {P : Program} {f : FuncId} {args : List AV} {l : Tab} (hf : CSem P f args Heap.empty fun x h => Own h x (l.map S)) : CPure P f args (SL l) :=
  CPure.of_sem (k := 2) (hf.mono fun x h ho => ho.snap (fun _ => rfl))

def MnInv (a : Tab) (q c : Nat) (i : Nat) (r : Regs) (h : Heap) : Prop :=
  i ≤ a.length ∧ rg r 0 = SL a ∧ rg r 1 = .int .i64 q ∧ rg r 2 = .int .i64 c ∧ rg r 8 = .int .i64 i ∧ Own h (rg r 7) (((if i ≤ q then a.take i else (a.take i).eraseIdx q).map fun row => row.eraseIdx c).map S)
theorem eraseIdx_eq {α : Type} (l : List α) (c : Nat) : l.take c ++ l.drop (c + 1) = l.eraseIdx c := (List.eraseIdx_eq_take_drop_succ l c).symm
theorem eraseIdx_take_succ {α : Type} {l : List α} {i q : Nat} (hi : i < l.length) (hq : q < i) : (l.take (i + 1)).eraseIdx q = (l.take i).eraseIdx q ++ [l[i]] := by
  rw [List.take_succ_eq_append_getElem hi, List.eraseIdx_append_of_lt_length (by simp; omega)]
end Go.Proofs.YtgcfmodgabeocaaDoor.X
