/-
  Contracts: sheetpileref03.minor, Det, Invert.
-/
import Derived.Test.YtmpeghcilhcpjaaCA
import Derived.Test.YtmpeghcilhcpjaaXPlan
namespace Go.Proofs.Ytmpeghcilhcpjaa.X
open Go.RowKit F
set_option maxRecDepth 100000
set_option linter.unusedSimpArgs false
set_option linter.unusedVariables false

theorem extract_list (l : List UInt8) (a b : Nat) : (⟨l.toArray⟩ : ByteArray).extract a b = ⟨((l.take b).drop a).toArray⟩ := by
  apply ByteArray.ext
  apply Array.ext'
  rw [ByteArray.data_extract, Array.toList_extract]
  simp [List.drop_take]
@[simp] theorem sliceX_S {P : Program} {t : TypeId} (ht : strT P t = true) {l : List UInt8} {lo hi : Option AV} :
    sliceX P t (S l) lo hi none = (boundX l.length hi l.length).bind fun b => (boundX b lo 0).map fun a => S ((l.take b).drop a) := by
  simp only [sliceX, strT_und ht, S]
  simp [ByteArray.size]
  cases boundX l.length hi l.length with
  | none => rfl
  | some b =>
    simp only [Option.bind_some]
    cases boundX b lo 0 with
    | none => rfl
    | some a =>
      simp
      exact extract_list l a b
/-- A single list of texts that is new. -/
theorem CPure.of_own {P : Program} {f : FuncId} {args : List AV} {l : Tab} (hf : CSem P f args Heap.empty fun x h => Own h x (l.map S)) : CPure P f args (SL l) :=
  CPure.of_sem (k := 2) (hf.mono fun x h ho => ho.snap (fun _ => rfl))

def MnInv (a : Tab) (q c : Nat) (i : Nat) (r : Regs) (h : Heap) : Prop :=
  i ≤ a.length ∧ rg r 0 = SL a ∧ rg r 1 = .int .i64 q ∧ rg r 2 = .int .i64 c ∧ rg r 8 = .int .i64 i ∧ Own h (rg r 7) (((if i ≤ q then a.take i else (a.take i).eraseIdx q).map fun row => row.eraseIdx c).map S)
theorem eraseIdx_eq {α : Type} (l : List α) (c : Nat) : l.take c ++ l.drop (c + 1) = l.eraseIdx c := (List.eraseIdx_eq_take_drop_succ l c).symm
theorem eraseIdx_take_succ {α : Type} {l : List α} {i q : Nat} (hi : i < l.length) (hq : q < i) : (l.take (i + 1)).eraseIdx q = (l.take i).eraseIdx q ++ [l[i]] := by
  rw [List.take_succ_eq_append_getElem hi, List.eraseIdx_append_of_lt_length (by simp; omega)]
theorem minor_pure (a : Tab) (q c : Nat) (hl : a.length < 2 ^ 40) (hr : ∀ x ∈ a, c < x.length ∧ x.length < 2 ^ 40) : CPure Try.prog 59 [SL a, .int .i64 q, .int .i64 c] (SL (minorL a q c)) := by
  refine CPure.of_own ?_
  refine CSem.body hm Try.func59 rfl (by kernel_rfl) (by kernel_rfl) (by simp [Try.ntmps59]) ?_
  simp [Try.f59]
  refine wpc_loop (MnInv a q c) (a.length - ·) ?_ 0 ?_
  · rintro i r h ⟨hi, g0, g1, g2, g8, ho⟩
    rcases Nat.lt_or_eq_of_le hi with hlt | heq
    · have hx : a[i]? = some a[i] := List.getElem?_eq_getElem hlt
      have hrow := hr _ (List.getElem_mem hlt)
      have hw : IntKind.i64.wrap ((i : Int) + 1) = ((i + 1 : Nat) : Int) := by rw [wrap64 (by omega) (by omega)]; omega
      have hwc : IntKind.i64.wrap ((c : Int) + 1) = ((c + 1 : Nat) : Int) := by rw [wrap64 (by omega) (by omega)]; omega
      by_cases hq : i = q
      · have hlt2 : q < a.length := by omega
        subst hq
        simp [g0, g1, g2, g8, hlt2]
        refine ⟨i + 1, by omega, by omega, by simp [g0], by simp [g1], by simp [g2], by simp; simpa using hw, ?_⟩
        simp
        rw [if_pos (Nat.le_refl _)] at ho
        rw [if_neg (by omega)]
        have e : (a.take (i + 1)).eraseIdx i = a.take i := by
          rw [List.take_succ_eq_append_getElem hlt, List.eraseIdx_append_of_length_le (by simp; omega)]
          simp [Nat.min_eq_left hi]
        simpa [e] using ho
      · have hq' : ¬ (i : Int) = q := by omega
        simp [g0, g1, g2, g8, hlt, hq, hq']
        refine wpc_tk 15 3 (by kernel_rfl) ?_
        have k1 : (c : Int) ≤ (a[i].length : Int) := by omega
        have k2 : (c : Int) + 1 ≤ (a[i].length : Int) := by omega
        have k3 : c ≤ a[i].length := by omega
        have k4 : c + 1 ≤ a[i].length := by omega
        have k5 : ((c : Int) + 1).toNat = c + 1 := by omega
        have k6 : 0 ≤ (c : Int) + 1 := by omega
        have k7 : (a[i].take c).length + (a[i].drop (c + 1)).length ≤ 2 ^ 47 := by simp; omega
        have hwc' : IntKind.i64.wrap ((c : Int) + 1) = (c : Int) + 1 := by rw [wrap64 (by omega) (by omega)]
        have hlen : ((((if i ≤ q then a.take i else (a.take i).eraseIdx q).map fun row => row.eraseIdx c).map S)).length < 2 ^ 40 := by
          split <;> simp [List.length_eraseIdx] <;> (try split) <;> omega
        obtain ⟨x', h', e, ho', hnx, hat, hk⟩ := append_own (P := Try.prog) (t := 24) (xt := 24) (by kernel_rfl) ho hlen (S_atom (a[i].eraseIdx c))
        have hadd : binX Try.prog .add 9 (S (a[i].take c)) (S (a[i].drop (c + 1))) = some (S (a[i].eraseIdx c)) := by
          rw [binX_Sadd _ _ k7, eraseIdx_eq]
        simp [g0, g1, g2, g8, hlt, hx, k1, k2, k3, k4, k5, k6, hwc', hadd]
        simp [buildSlice_one (P := Try.prog) (t := 24) (xt := 24) (by kernel_rfl), e, g0, g1, g2, g8]
        refine ⟨i + 1, by omega, by omega, by simp [g0], by simp [g1], by simp [g2], by simp; simpa using hw, ?_⟩
        have e2 : (if i + 1 ≤ q then a.take (i + 1) else (a.take (i + 1)).eraseIdx q) = (if i ≤ q then a.take i else (a.take i).eraseIdx q) ++ [a[i]] := by
          by_cases h1 : i < q
          · rw [if_pos (by omega), if_pos (by omega), List.take_succ_eq_append_getElem hlt]
          · rw [if_neg (by omega), if_neg (by omega)]
            exact eraseIdx_take_succ hlt (by omega)
        rw [e2]
        simpa using ho'
    · subst heq
      simp [g0, g1, g2, g8]
      rw [List.take_length] at ho
      have e : (if a.length ≤ q then a else a.eraseIdx q) = a.eraseIdx q := by
        split
        · rw [List.eraseIdx_of_length_le (by omega)]
        · rfl
      rw [e] at ho
      simpa [minorL] using ho
  · simp [MnInv, Own]
end Go.Proofs.Ytmpeghcilhcpjaa.X
