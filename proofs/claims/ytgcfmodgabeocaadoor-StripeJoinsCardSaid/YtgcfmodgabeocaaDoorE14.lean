/-
  Contracts: sheetpileref13.Text.
-/
import Derived.Test.YtgcfmodgabeocaaDoorE13
namespace Go.Proofs.YtgcfmodgabeocaaDoor.X
open Go.RowKit F
set_option maxRecDepth 100000
set_option linter.unusedSimpArgs false
set_option linter.unusedVariables false

/-- The text of some shards, by definition. -/
def textR (d : Tab) : List UInt8 × Bool :=
  if (cutR d.flatten 4).2.2 ≠ 0 then ([], false) else if ((cutR d.flatten 4).2.1.length : Int) < (cutR d.flatten 4).1 then ([], false)
  else if ∀ b ∈ (cutR d.flatten 4).2.1.drop (cutR d.flatten 4).1.toNat, b = 0 then ((cutR d.flatten 4).2.1.take (cutR d.flatten 4).1.toNat, true) else ([], false)
theorem binX_B8neq {P : Program} {t : TypeId} (a b : UInt8) : binX P .neq t (B8 a) (B8 b) = some (.bool (!decide (a = b))) := by
  simp only [B8]
  rw [binX_int (op := .neq) (by decide) (by decide), intX_neq]
  congr 3
  apply decide_eq_decide.2
  constructor
  · intro h; exact UInt8.toNat_inj.1 (by omega)
  · intro h; rw [h]
theorem flatten_take_succ {d : Tab} {i : Nat} (hi : i < d.length) : (d.take (i + 1)).flatten = (d.take i).flatten ++ d[i] := by
  rw [List.take_succ_eq_append_getElem hi, List.flatten_append]; simp
theorem flatten_take_le {d : Tab} (i : Nat) : (d.take i).flatten.length ≤ d.flatten.length := by
  have h := List.take_append_drop i d
  have : d.flatten = (d.take i).flatten ++ (d.drop i).flatten := by rw [← List.flatten_append, h]
  rw [this, List.length_append]; omega
theorem rtext_pure (c : Cfg) (d : Tab) (hd : d.length < 2 ^ 40) (hfl : d.flatten.length < 2 ^ 46) : CPure Tryd.prog 34 [CfA c, SL d] (.tup [S (textR d).1, .bool (textR d).2]) := by
  refine CPure.of_sem (k := 2) ?_
  refine CSem.body hm Tryd.func34 rfl (by kernel_rfl) (by kernel_rfl) (by simp [Tryd.ntmps34]) ?_
  simp [Tryd.f34, CfA, AV.cells]
  refine wpc_loop (fun (i : Nat) r hp => i ≤ d.length ∧ rg r 1 = SL d ∧ rg r 6 = S (d.take i).flatten ∧ rg r 7 = .int .i64 (i : Int)) (d.length - ·) ?_ 0 ?_
  · rintro i r hp ⟨hi, g1, g6, g7⟩
    rcases Nat.lt_or_eq_of_le hi with hlt | heq
    · have hnext : IntKind.i64.wrap ((i : Int) + 1) = (i : Int) + 1 := wrap64 (by omega) (by omega)
      have h1 := flatten_take_le (d := d) (i + 1)
      rw [flatten_take_succ hlt, List.length_append] at h1
      have hadd := binX_Sadd (P := Tryd.prog) (t := 9) (d.take i).flatten d[i] (by omega)
      simp [g1, g6, g7, hlt, hadd, hnext]
      exact ⟨i + 1, by omega, by omega, by rw [flatten_take_succ hlt], by push_cast; rfl⟩
    · subst heq
      rw [List.take_length] at g6
      simp [g1, g6, g7]
      refine (rcut_call _ _ (by omega) _).use ?_
      have hcn := cutR_nn d.flatten 4
      have hrl : (cutR d.flatten 4).2.1.length < 2 ^ 46 := by
        unfold cutR
        split
        · split
          · simp
          · show (d.flatten.drop _).length < _
            rw [List.length_drop]; omega
        · simp
      rw [textR]
      simp only [cutA]
      generalize (cutR d.flatten 4).1 = n at hcn
      generalize (cutR d.flatten 4).2.1 = rest at hrl
      generalize (cutR d.flatten 4).2.2 = ee
      obtain ⟨N, rfl⟩ := Int.eq_ofNat_of_zero_le hcn.1
      by_cases h4 : ee = 0
      rotate_left
      · simp [g1, h4]
      by_cases h5 : rest.length < N
      · simp [g1, h4, h5]
      simp [g1, h4, h5]
      refine wpc_loop (fun (j : Nat) r hp => N ≤ j ∧ j ≤ rest.length ∧ rg r 8 = .int .i64 (N : Int) ∧ rg r 9 = S rest ∧ rg r 11 = .int .i64 (j : Int) ∧ ∀ q (hq : q < rest.length), N ≤ q → q < j → rest[q] = 0) (rest.length - ·) ?_ N ?_
      · rintro j r hp ⟨hNj, hj, k8, k9, k11, hz⟩
        rcases Nat.lt_or_eq_of_le hj with hjl | hje
        · have hnj : IntKind.i64.wrap ((j : Int) + 1) = (j : Int) + 1 := wrap64 (by omega) (by omega)
          have h8 : AV.int .u8 0 = B8 0 := rfl
          by_cases hb : rest[j] = 0
          · simp [k8, k9, k11, hjl, h8, binX_B8neq, hb, hnj]
            refine ⟨j + 1, by omega, by omega, by omega, by push_cast; rfl, fun q hq h6 h7 => ?_⟩
            rcases Nat.lt_or_eq_of_le (Nat.lt_succ_iff.1 h7) with h9 | h9
            · exact hz q hq h6 h9
            · subst h9; exact hb
          · have hno : ¬ ∀ b ∈ rest.drop N, b = 0 := fun h => hb (h _ (by
              rw [List.mem_iff_getElem]
              exact ⟨j - N, by simp; omega, by rw [List.getElem_drop]; congr 1; omega⟩))
            rw [if_neg hno]
            simp [k8, k9, k11, hjl, h8, binX_B8neq, hb]
        · subst hje
          have hyes : ∀ b ∈ rest.drop N, b = 0 := by
            intro b hb
            obtain ⟨i2, hi2, rfl⟩ := List.mem_iff_getElem.1 hb
            rw [List.getElem_drop]
            simp at hi2
            exact hz _ (by omega) (by omega) (by omega)
          rw [if_pos hyes]
          simp [k8, k9, k11, sliceX_S]
          exact hNj
      · exact ⟨Nat.le_refl _, by omega, by simp, by simp, by simp, fun q _ h1 h2 => by omega⟩
  · exact ⟨by omega, by simp, by simp, by simp⟩
theorem rtext_callS (c : Cfg) (d : Tab) (hd : d.length < 2 ^ 40) (hfl : d.flatten.length < 2 ^ 46) {h : Heap} {x : AV} (hx : snap h true 2 x = some (SL d)) : CSem Tryd.prog 34 [CfA c, x] h fun x' h' => x' = .tup [S (textR d).1, .bool (textR d).2] ∧ h' = h :=
  (rtext_pure c d hd hfl).call (k := 2) (by simp [hx, CfA])
end Go.Proofs.YtgcfmodgabeocaaDoor.X
