/-
  The law RsSums.
-/
import Derived.Test.YtmpeghcilhcpjaaD08
namespace Go.Proofs.Ytmpeghcilhcpjaa.X
open Go.RowKit F
set_option maxRecDepth 100000
set_option linter.unusedSimpArgs false
set_option linter.unusedVariables false

def zipL (a b : Tab) : Tab := List.zipWith xorL a b
theorem zipL_get {a b : Tab} {i : Nat} {x y : List UInt8} (hx : a[i]? = some x) (hy : b[i]? = some y) : (zipL a b)[i]? = some (xorL x y) := by simp [zipL, List.getElem?_zipWith, hx, hy]
theorem zip_enc {a b : Tab} {m : Nat} (hA : EncP a m) (hB : EncP b m) (hl : a.length = b.length) (hw : (row0 a).length = (row0 b).length) : EncP (zipL a b) m ∧ encL (zipL a b) m = zipL (encL a m) (encL b m) := by
  have han := hA.1.ne
  have hbn := hB.1.ne
  have hzl : (zipL a b).length = a.length := by simp [zipL, hl]
  have rows : ∀ x ∈ zipL a b, x.length = (row0 a).length := fun x hx => by
    obtain ⟨i, hi⟩ := List.getElem?_of_mem hx
    rw [zipL, List.getElem?_zipWith] at hi
    cases h1 : a[i]? with
    | none => rw [h1] at hi; simp at hi
    | some y =>
      cases h2 : b[i]? with
      | none => rw [h1, h2] at hi; simp at hi
      | some z =>
        rw [h1, h2] at hi
        simp at hi
        have e1 := hA.2 y (List.mem_of_getElem? h1)
        have e2 := hB.2 z (List.mem_of_getElem? h2)
        rw [← hi]
        simp only [xorL, List.length_zipWith]
        rw [e1, e2]
        have : (a[0]?.getD []).length = (b[0]?.getD []).length := hw
        rw [← this, Nat.min_self]
        rfl
  have hzn : zipL a b ≠ [] := by intro e; rw [e] at hzl; exact han (List.length_eq_zero_iff.1 (by simpa using hzl.symm))
  have hzE := even_of rows
  refine ⟨⟨by rw [hzl]; exact hA.1, hzE⟩, ?_⟩
  apply List.ext_getElem?
  intro i
  by_cases hi : i < a.length + m
  · rw [encL_get hzn hzE (by rw [hzl]; exact hi), hzl, zipL_get (encL_get han hA.2 hi) (encL_get hbn hB.2 (by omega)), ← hl]
    congr 1
    exact rowMul_add hl han hA.2 hB.2 hw
  · rw [List.getElem?_eq_none (by rw [encL_len, hzl]; omega), List.getElem?_eq_none (by simp [zipL, encL_len]; omega)]
def SuInv (a b : Tab) (m : Nat) (i : Nat) (r : Regs) (h : Heap) : Prop :=
  i ≤ a.length ∧ rg r 0 = SL a ∧ rg r 1 = SL b ∧ rg r 2 = .int .i64 m ∧ rg r 7 = SL (encL a m) ∧ rg r 9 = SL (encL b m) ∧ rg r 12 = .int .i64 i ∧ Own h (rg r 11) (((zipL a b).take i).map S)
def SvInv (a b : Tab) (m : Nat) (i : Nat) (r : Regs) (_ : Heap) : Prop :=
  i ≤ (encL a m).length ∧ rg r 7 = SL (encL a m) ∧ rg r 9 = SL (encL b m) ∧ rg r 15 = SL (zipL (encL a m) (encL b m)) ∧ rg r 17 = .int .i64 i
theorem rsSums_pure (a b : Tab) (m : Int) (hla : a.length < 2 ^ 48) (_ : ∀ x ∈ a, x.length < 2 ^ 63) (hlb : b.length < 2 ^ 48) (_ : ∀ x ∈ b, x.length < 2 ^ 63) (_ : (Lit.int .i64 m).wf = true) : CPure Try.prog 20 [SL a, SL b, .int .i64 m] (.bool true) := by
  refine CPure.of_sem (k := 1) ?_
  refine CSem.body hm Try.func20 rfl (by kernel_rfl) (by kernel_rfl) (by simp [Try.ntmps20]) ?_
  simp [Try.f20]
  refine (small5_call a (by omega) _).use ?_
  by_cases h1 : SmallP a 14 60
  rotate_left
  · simp [h1]
    refine out05 _ _ ?_
    simp
  simp [h1]
  refine (small5_call b (by omega) _).use ?_
  by_cases h2 : SmallP b 14 60
  rotate_left
  · simp [h2]
    refine out05 _ _ ?_
    simp
  by_cases h3 : a.length = b.length
  rotate_left
  · simp [h2, h3]
    refine out05 _ _ ?_
    simp
  by_cases h4 : 6 < m
  · simp [h2, h3, h4]
    refine out05 _ _ ?_
    simp
  have hsa := sm_of h1
  have hsb := sm_of h2
  simp [h2, h3, h4]
  refine (enc_callS a m hsa (by simp)).use ?_
  simp [rL]
  refine (enc_callS b m hsb (by simp)).use ?_
  simp [rL]
  refine wpc_draw 17 (by kernel_rfl) ?_
  by_cases hA : EncP a m
  rotate_left
  · simp [encR, hA]
    refine out05 _ _ ?_
    simp
  by_cases hB : EncP b m
  rotate_left
  · simp [encR, hA, hB]
    refine out05 _ _ ?_
    simp
  have hpa : 0 < a.length := List.length_pos_iff.2 hA.1.ne
  have hpb : 0 < b.length := List.length_pos_iff.2 hB.1.ne
  have ha0 : a[0]? = some a[0] := List.getElem?_eq_getElem hpa
  have hb0 : b[0]? = some b[0] := List.getElem?_eq_getElem hpb
  by_cases h5 : a[0].length = b[0].length
  rotate_left
  · simp [encR, hA, hB, hpa, hpb, h5]
    refine out05 _ _ ?_
    simp
  have hw : (row0 a).length = (row0 b).length := by rw [row0, row0, ha0, hb0]; exact h5
  obtain ⟨M, rfl⟩ := Int.eq_ofNat_of_zero_le hA.1.2.1
  obtain ⟨hZ, hze⟩ := zip_enc hA hB h3 hw
  have hM := hA.1.2.2.2
  have hzl : (zipL a b).length = a.length := by simp [zipL, h3]
  have hel1 : (encL a M).length = a.length + M := encL_len
  have hel2 : (encL b M).length = a.length + M := by rw [encL_len, h3]
  have hel3 : (zipL (encL a M) (encL b M)).length = a.length + M := by simp [zipL, hel1, hel2]
  simp [encR, hA, hB, hpa, hpb, h5]
  refine wpc_loop (SuInv a b M) (a.length - ·) ?_ 0 ?_
  · rintro i r hp ⟨hi, g0, g1, g2, g7, g9, g12, ho⟩
    rcases Nat.lt_or_eq_of_le hi with hlt | heq
    · have hx : a[i]? = some a[i] := List.getElem?_eq_getElem hlt
      have hlb : i < b.length := by omega
      have hy : b[i]? = some b[i] := List.getElem?_eq_getElem hlb
      have hz := zipL_get hx hy
      have hxy : a[i].length = b[i].length := by
        rw [hA.2 _ (List.getElem_mem hlt), hB.2 _ (List.getElem_mem hlb)]
        exact hw
      have hadd : addT a[i] b[i] = some (xorL a[i] b[i]) := by rw [addT, if_pos hxy]
      obtain ⟨x', h', e, ho', hnx, hat, hk2⟩ := append_own (P := Try.prog) (t := 24) (xt := 24) (by kernel_rfl) ho (by simp; omega) (S_atom (xorL a[i] b[i]))
      simp [g0, g1, g2, g7, g9, g12, hlt]
      refine wpc_tk 14 0 (by kernel_rfl) ?_
      simp [g0, g1, g2, g7, g9, g12, hlt, hlb]
      refine FCall.use (fun h => radd_call a[i] b[i] (hsa.2 _ (List.getElem_mem hlt)) h) ?_
      rw [hadd]
      simp [rS, g0, g1, g2, g7, g9, g12, buildSlice_one (P := Try.prog) (t := 24) (xt := 24) (by kernel_rfl), e]
      refine ⟨i + 1, by omega, by omega, by simp [g0], by simp [g1], by simp [g2], by simp [g7], by simp [g9], by simp [wrap64 (n := (i : Int) + 1) (by omega) (by omega)], ?_⟩
      rw [take_map_succ _ hz]
      simpa using ho'
    · rw [heq, List.take_of_length_le (by omega)] at ho
      have hsz : Sm (zipL a b) := ⟨by omega, fun x hx => by
        obtain ⟨i, hi⟩ := List.getElem?_of_mem hx
        have hil : i < a.length := by
          have := (List.getElem?_eq_some_iff.1 hi).1
          omega
        rw [zipL_get (List.getElem?_eq_getElem hil) (List.getElem?_eq_getElem (show i < b.length by omega))] at hi
        have := hsa.2 _ (List.getElem_mem hil)
        rw [← Option.some.inj hi]
        simp [xorL]
        omega⟩
      simp [g0, g1, g2, g7, g9, g12, heq]
      refine (enc_callS (zipL a b) M hsz (ho.snap (fun _ => rfl))).use ?_
      simp [rL, encR, hZ, hze, g7, g9, hel1, hel2, hel3]
      refine wpc_loop (SvInv a b M) ((encL a M).length - ·) ?_ 0 ?_
      · rintro j r2 hp2 ⟨hj, g7, g9, g15, g17⟩
        rcases Nat.lt_or_eq_of_le hj with hlt | heq
        · have hlt2 : j < (encL b M).length := by omega
          have hlt3 : j < (zipL (encL a M) (encL b M)).length := by omega
          have hx : (encL a M)[j]? = some (encL a M)[j] := List.getElem?_eq_getElem hlt
          have hy : (encL b M)[j]? = some (encL b M)[j] := List.getElem?_eq_getElem hlt2
          have hz := zipL_get hx hy
          have hz' : (zipL (encL a M) (encL b M))[j] = xorL (encL a M)[j] (encL b M)[j] := by
            obtain ⟨h1, h2⟩ := List.getElem?_eq_some_iff.1 hz
            exact h2
          have hxy : (encL a M)[j].length = (encL b M)[j].length := by
            rw [encL_row hA.1.ne hA.2 _ (List.getElem_mem hlt), encL_row hB.1.ne hB.2 _ (List.getElem_mem hlt2), hw]
          have hadd : addT (encL a M)[j] (encL b M)[j] = some (xorL (encL a M)[j] (encL b M)[j]) := by rw [addT, if_pos hxy]
          have hlj : (encL a M)[j].length < 2 ^ 40 := by
            rw [encL_row hA.1.ne hA.2 _ (List.getElem_mem hlt), row0, ha0]
            exact hsa.2 _ (List.getElem_mem hpa)
          simp [g7, g9, g15, g17, hlt3]
          refine wpc_tk 14 0 (by kernel_rfl) ?_
          simp [g7, g9, g15, g17, hlt, hlt2]
          refine FCall.use (fun h => radd_call (encL a M)[j] (encL b M)[j] hlj h) ?_
          rw [hadd]
          simp [rS, g7, g9, g15, g17, hlt3, hz']
          exact ⟨j + 1, by omega, by omega, by simp [g7], by simp [g9], by simp [g15], by simp [wrap64 (n := (j : Int) + 1) (by omega) (by omega)]⟩
        · have hnl : ¬ j < (zipL (encL a M) (encL b M)).length := by omega
          simp [g7, g9, g15, g17, hnl]
          refine out05 _ _ ?_
          simp
      · exact ⟨Nat.zero_le _, by simp [g7], by simp [g9], by simp, by simp⟩
  · exact ⟨Nat.zero_le _, by simp, by simp, by simp, by simp, by simp, by simp, .inl ⟨by simp, by simp⟩⟩
end Go.Proofs.Ytmpeghcilhcpjaa.X
