/-
  Contracts: sheetpileref07.Put, Sure, Cut.
-/
import Derived.Test.YtgcfmodgabeocaaDoorE03
namespace Go.Proofs.YtgcfmodgabeocaaDoor.X
open Go.RowKit F
set_option maxRecDepth 100000
set_option linter.unusedSimpArgs false
set_option linter.unusedVariables false

theorem bytes_one (b : UInt8) : bytesOfX [B8 b] = some [b] := bytesOfX_map [b]
theorem rput_pure (n sz : Int) (hn : n < 9223372036854775808) : CPure Tryd.prog 45 [.int .i64 n, .int .i64 sz] (putA n sz) := by
  refine CPure.of_sem (k := 2) ?_
  refine CSem.body hm Tryd.func45 rfl (by kernel_rfl) (by kernel_rfl) (by simp [Tryd.ntmps45]) ?_
  by_cases h1 : sz < 1
  · have : ¬ PutP n sz := fun h => by have := h.1; omega
    simp [Tryd.f45, h1, putA, putR, this]
  by_cases h2 : 7 < sz
  · have : ¬ PutP n sz := fun h => by have := h.2.1; omega
    simp [Tryd.f45, h1, h2, putA, putR, this]
  by_cases h3 : n < 0
  · have : ¬ PutP n sz := fun h => by have := h.2.2; omega
    simp [Tryd.f45, h1, h2, h3, putA, putR, this]
  have hP : PutP n sz := ⟨by omega, by omega, by omega⟩
  obtain ⟨N, rfl⟩ := Int.eq_ofNat_of_zero_le (show 0 ≤ n by omega)
  obtain ⟨Z, rfl⟩ := Int.eq_ofNat_of_zero_le (show 0 ≤ sz by omega)
  simp [Tryd.f45, h1, h2, h3]
  refine wpc_loop (fun (i : Nat) r h => i ≤ Z ∧ rg r 0 = .int .i64 ((dv N i : Nat) : Int) ∧ rg r 1 = .int .i64 (Z : Int) ∧ rg r 6 = S (le N i) ∧ rg r 7 = .int .i64 (i : Int)) (Z - ·) ?_ 0 ?_
  · rintro i r h ⟨hi, g0, g1, g6, g7⟩
    rcases Nat.lt_or_eq_of_le hi with hlt | heq
    · have hrem : intX .rem .i64 ((dv N i : Nat) : Int) 256 = some (.int .i64 ((dv N i : Int) % 256)) := by
        rw [intX_rem (by decide), Int.tmod_eq_emod_of_nonneg (by omega)]
      have hdl := dv_le N (i + 1)
      have hquo : intX .quo .i64 ((dv N i : Nat) : Int) 256 = some (.int .i64 ((dv N (i + 1) : Nat) : Int)) := by
        rw [intX_quo (by decide)]
        have e : ((dv N i : Nat) : Int).tdiv 256 = ((dv N i / 256 : Nat) : Int) := rfl
        rw [e, dv_succ, wrap64 (by omega) (by omega)]
      have hb8 : AV.int .u8 (IntKind.u8.wrap ((dv N i : Int) % 256)) = B8 (UInt8.ofNat (N / 256 ^ i % 256)) := by
        rw [wrap8 (by omega) (by omega)]
        simp only [B8, UInt8.toNat_ofNat']
        congr 1
        rw [show N / 256 ^ i = dv N i from rfl, Nat.mod_eq_of_lt (by omega : dv N i % 256 < 2 ^ 8)]
        omega
      have hl7 : (le N i).length + 1 ≤ 2 ^ 47 := by simp; omega
      simp at hl7
      simp [g0, g1, g6, g7, hlt, hrem, hquo, hb8, wrap64 (n := (i : Int) + 1) (by omega) (by omega), buildSlice_one (P := Tryd.prog) (t := 45) (xt := 45) (by kernel_rfl), Heap.get_alloc, bytes_one, hl7]
      exact ⟨i + 1, by omega, by omega, rfl, by rw [le_append], by push_cast; rfl⟩
    · subst heq
      by_cases h4 : 0 < dv N i
      · simp [g0, g1, g6, g7, h4, putA, putR, hP]
      · simp [g0, g1, g6, g7, h4, putA, putR, hP]
  · exact ⟨by omega, by simp [dv_zero], by simp, by simp [le], by simp⟩
theorem rput_call (n sz : Int) (hn : n < 9223372036854775808) (h : Heap) : CSem Tryd.prog 45 [.int .i64 n, .int .i64 sz] h fun x' h' => x' = putA n sz ∧ h' = h := (rput_pure n sz hn).call (k := 1) (by simp)
theorem rsure_pure (n sz : Int) (hn : n < 9223372036854775808) : CPure Tryd.prog 26 [.int .i64 n, .int .i64 sz] (S (putR n sz).1) := by
  refine CPure.of_sem (k := 2) ?_
  refine CSem.body hm Tryd.func26 rfl (by kernel_rfl) (by kernel_rfl) (by simp [Tryd.ntmps26]) ?_
  simp [Tryd.f26]
  refine (rput_call n sz hn _).use ?_
  simp [putA]
theorem rsure_call (n sz : Int) (hn : n < 9223372036854775808) (h : Heap) : CSem Tryd.prog 26 [.int .i64 n, .int .i64 sz] h fun x' h' => x' = S (putR n sz).1 ∧ h' = h := (rsure_pure n sz hn).call (k := 1) (by simp)
theorem rcut_pure (s : List UInt8) (sz : Int) (hs : s.length < 2 ^ 47) : CPure Tryd.prog 60 [S s, .int .i64 sz] (cutA s sz) := by
  refine CPure.of_sem (k := 2) ?_
  refine CSem.body hm Tryd.func60 rfl (by kernel_rfl) (by kernel_rfl) (by simp [Tryd.ntmps60]) ?_
  by_cases h1 : sz < 1
  · have : ¬ CutP s sz := fun h => by have := h.1; omega
    simp [Tryd.f60, h1, cutA, cutR, this]
  by_cases h2 : 7 < sz
  · have : ¬ CutP s sz := fun h => by have := h.2; omega
    simp [Tryd.f60, h1, h2, cutA, cutR, this]
  have hP : CutP s sz := ⟨by omega, by omega⟩
  obtain ⟨Z, rfl⟩ := Int.eq_ofNat_of_zero_le (show 0 ≤ sz by omega)
  by_cases h3 : s.length < Z
  · simp [Tryd.f60, h1, h2, h3, cutA, cutR, hP]
  have hz : (Z : Int) ≤ s.length := by omega
  have hzn : Z ≤ s.length := by omega
  have hll : (s.take Z).length = Z := by simp; omega
  have hZ7 : Z ≤ 7 := by omega
  simp [Tryd.f60, h1, h2, h3, sliceX_S, hz, wrap64 (n := (Z : Int) - 1) (by omega) (by omega)]
  refine wpc_loop (fun (i : Nat) r h => i ≤ Z ∧ rg r 0 = S s ∧ rg r 1 = .int .i64 (Z : Int) ∧ rg r 7 = .int .i64 ((unle ((s.take Z).drop i) : Nat) : Int) ∧ rg r 8 = .int .i64 ((i : Int) - 1)) (fun i => i) ?_ Z ?_
  · rintro i r h ⟨hi, g0, g1, g7, g8⟩
    cases i with
    | zero =>
      have hu0 : unle ((s.take Z).drop 0) = unle (s.take Z) := rfl
      rw [hu0] at g7
      simp [g0, g1, g7, g8]
      refine wpc_draw 7 (by kernel_rfl) ?_
      simp [g0, g1, g7, g8, sliceX_S, hz, cutA, cutR, hP, h3, hzn]
    | succ i =>
      have e : ((i + 1 : Nat) : Int) - 1 = (i : Int) := by omega
      rw [e] at g8
      have hil : i < (s.take Z).length := by omega
      have hu := unle_drop hil
      have hsm : unle ((s.take Z).drop i) < 72057594037927936 := unle_small (by simp; omega)
      rw [hu] at hsm
      have hb := lt8 (s.take Z)[i]
      have hsi : s[i]? = some (s.take Z)[i] := by rw [List.getElem_take]; exact List.getElem?_eq_getElem _
      generalize hq : unle ((s.take Z).drop (i + 1)) = q at hsm g7 hu
      generalize hc : (s.take Z)[i] = c at hsm hb hu hsi
      have hsi' : s[i] = c := by rw [List.getElem?_eq_getElem (by omega)] at hsi; exact Option.some.inj hsi
      simp [g0, g1, g7, g8, hsi', show i < s.length by omega, wrap64 (n := 256 * (q : Int)) (by omega) (by omega), wrap64 (n := (c.toNat : Int)) (by omega) (by omega), wrap64 (n := 256 * (q : Int) + (c.toNat : Int)) (by omega) (by omega), wrap64 (n := (i : Int) - 1) (by omega) (by omega), B8]
      exact ⟨i, by omega, by omega, by rw [hu]; push_cast; omega, rfl⟩
  · exact ⟨Nat.le_refl _, by simp, by simp, by rw [List.drop_eq_nil_of_le (by omega)]; simp [unle], by simp⟩
theorem rcut_call (s : List UInt8) (sz : Int) (hs : s.length < 2 ^ 47) (h : Heap) : CSem Tryd.prog 60 [S s, .int .i64 sz] h fun x' h' => x' = cutA s sz ∧ h' = h := (rcut_pure s sz hs).call (k := 1) (by simp)
end Go.Proofs.YtgcfmodgabeocaaDoor.X
