/-
  Contracts: wire.Put; sheetpileref07.Put, Sure, Cut.
-/
import Derived.Test.YtgcfmodgabeocaaDoorE01
import Derived.Test.YtgcfmodgabeocaaDoorF3
namespace Go.Proofs.YtgcfmodgabeocaaDoor.X
open Go.RowKit F
set_option maxRecDepth 100000
set_option linter.unusedSimpArgs false
set_option linter.unusedVariables false

theorem sliceX_S {P : Program} {t : TypeId} (ht : strT P t = true) {l : List UInt8} {lo hi : Option AV} :
    sliceX P t (S l) lo hi none = (boundX l.length hi l.length).bind fun b => (boundX b lo 0).map fun a => S ((l.take b).drop a) := by
  have hsz : (ByteArray.mk l.toArray).size = l.length := rfl
  simp only [sliceX, strT_und ht, S, hsz]
  simp
  cases hb : boundX l.length hi l.length with
  | none => rfl
  | some b =>
    simp only [Option.bind_some]
    cases ha : boundX b lo 0 with
    | none => rfl
    | some a =>
      simp only [Option.map_some]
      congr 2
      have e : (ByteArray.extract ⟨l.toArray⟩ a b).data.toList = (l.take b).drop a := by
        rw [Lib.extract_data, List.drop_take]
      cases hx : ByteArray.extract ⟨l.toArray⟩ a b with
      | mk d =>
        rw [hx] at e
        simp only at e
        rw [← e]
def PutP (n sz : Int) : Prop := 1 ≤ sz ∧ sz ≤ 7 ∧ 0 ≤ n
instance (n sz : Int) : Decidable (PutP n sz) := by unfold PutP; exact inferInstance
/-- A number as so many bytes, and an error. -/
def putR (n sz : Int) : List UInt8 × Int := if PutP n sz then (if 0 < dv n.toNat sz.toNat then ([], 12) else (le n.toNat sz.toNat, 0)) else ([], 1)
def putA (n sz : Int) : AV := .tup [S (putR n sz).1, .int .i64 (putR n sz).2]
theorem pow_le7 {sz : Nat} (h : sz ≤ 7) : 256 ^ sz ≤ 256 ^ 7 := Nat.pow_le_pow_right (by omega) h
structure PutInv (n sz : Nat) (i : Nat) (r : Regs) (h : Heap) : Prop where
  hi : i ≤ sz
  g0 : rg r 0 = .int .i64 ((dv n i : Nat) : Int)
  g1 : rg r 1 = .int .i64 (sz : Int)
  g6 : rg r 6 = .sl 0 0 sz sz 1
  g21 : rg r 21 = .int .i64 (sz : Int)
  g22 : rg r 22 = .int .i64 (i : Int)
  hg : h.get 0 = some ((mid (le n sz) (List.replicate sz 0) i).map B8)
theorem put_pure (n sz : Int) (hn : n < 9223372036854775808) : CPure Tryd.prog 23 [.int .i64 n, .int .i64 sz] (putA n sz) := by
  refine CPure.of_sem (k := 2) ?_
  refine CSem.body hm Tryd.func23 rfl (by kernel_rfl) (by kernel_rfl) (by simp [Tryd.ntmps23]) ?_
  by_cases h1 : sz < 1
  · have : ¬ PutP n sz := fun h => by have := h.1; omega
    simp [Tryd.f23, h1, putA, putR, this]
  by_cases h2 : 7 < sz
  · have : ¬ PutP n sz := fun h => by have := h.2.1; omega
    simp [Tryd.f23, h1, h2, putA, putR, this]
  by_cases h3 : n < 0
  · have : ¬ PutP n sz := fun h => by have := h.2.2; omega
    simp [Tryd.f23, h1, h2, h3, putA, putR, this]
  have hP : PutP n sz := ⟨by omega, by omega, by omega⟩
  obtain ⟨N, rfl⟩ := Int.eq_ofNat_of_zero_le (show 0 ≤ n by omega)
  obtain ⟨Z, rfl⟩ := Int.eq_ofNat_of_zero_le (show 0 ≤ sz by omega)
  have hl : (le N Z).length = (List.replicate Z (0 : UInt8)).length := by simp
  have hz0 : (0 : Int) ≤ Z := by omega
  have hz1 : (Z : Int) ≤ 140737488355328 := by omega
  simp [Tryd.f23, h1, h2, h3, hz0, hz1]
  refine wpc_loop (PutInv N Z) (Z - ·) ?_ 0 ?_
  · rintro i r h ⟨hi, g0, g1, g6, g21, g22, hg⟩
    rcases Nat.lt_or_eq_of_le hi with hlt | heq
    · have hrem : intX .rem .i64 ((dv N i : Nat) : Int) 256 = some (.int .i64 ((dv N i : Int) % 256)) := by
        rw [intX_rem (by decide), Int.tmod_eq_emod_of_nonneg (by omega)]
      have hdl := dv_le N (i + 1)
      have hquo : intX .quo .i64 ((dv N i : Nat) : Int) 256 = some (.int .i64 ((dv N (i + 1) : Nat) : Int)) := by
        rw [intX_quo (by decide)]
        have e : ((dv N i : Nat) : Int).tdiv 256 = ((dv N i / 256 : Nat) : Int) := rfl
        rw [e, dv_succ, wrap64 (by omega) (by omega)]
      have hb8 : AV.int .u8 (IntKind.u8.wrap ((dv N i : Int) % 256)) = B8 (UInt8.ofNat (N / 256 ^ i % 256)) := by
        rw [wrap8 (by omega) (by omega)]
        simp only [B8, UInt8.toNat_ofNat']
        congr 1
        rw [show N / 256 ^ i = dv N i from rfl, Nat.mod_eq_of_lt (by omega : dv N i % 256 < 2 ^ 8)]
        omega
      have hget := le_get Z N i hlt
      have hlen : i < (mid (le N Z) (List.replicate Z 0) i).length := by rw [mid_length hl (by simpa using hi)]; simpa using hlt
      simp [g0, g1, g6, g21, g22, hlt, hrem, hquo, hb8, hg, hlen, wrap64 (n := (i : Int) + 1) (by omega) (by omega)]
      refine ⟨i + 1, by omega, by omega, by simp, by simp [g1], by simp [g6], by simp [g21], by simp, ?_⟩
      rw [Heap.get_put_same hg, ← List.map_set, mid_set hl (by simpa using hlt) hget]
    · subst heq
      have hfull := mid_full hl
      simp only [List.length_replicate] at hfull
      rw [hfull] at hg
      by_cases h4 : 0 < dv N i
      · simp [g0, g1, g6, g21, g22, h4, putA, putR, hP]
      · simp [g0, g1, g6, g21, g22, h4, putA, putR, hP, hg]
  · exact ⟨by omega, by simp [dv_zero], by simp, by simp, by simp, by simp, by simp [Heap.get_alloc, replicate_B8]⟩
theorem put_call (n sz : Int) (hn : n < 9223372036854775808) (h : Heap) : CSem Tryd.prog 23 [.int .i64 n, .int .i64 sz] h fun x' h' => x' = putA n sz ∧ h' = h := (put_pure n sz hn).call (k := 1) (by simp)
end Go.Proofs.YtgcfmodgabeocaaDoor.X
