/-
  The laws RsDelta, RsChanged.
-/
import Derived.Test.YtmpeghcilhcpjaaD09
namespace Go.Proofs.Ytmpeghcilhcpjaa.X
open Go.RowKit F
set_option maxRecDepth 100000
set_option linter.unusedSimpArgs false
set_option linter.unusedVariables false

theorem del_enc {l : Tab} {K N : Nat} {x : List UInt8} (h : DelP l K N x) : encR ((l.take K).set N x) ((l.length : Int) - K) = (delL l K N x, 0) := by
  obtain ⟨hI, h0, hn, hx⟩ := h
  have hM := hI.may
  obtain ⟨i1, i2, hE, henc⟩ := hI
  have hKl : K ≤ l.length := by omega
  have hk1 : 0 < K := by omega
  have hsl : ((l.take K).set N x).length = K := by rw [List.length_set, List.length_take]; omega
  have hset : EvenP ((l.take K).set N x) := even_of (w := x.length) fun y hy => by
    rcases List.mem_or_eq_of_mem_set hy with h | rfl
    · rw [hE y (List.mem_of_mem_take h)]; exact hx.symm
    · rfl
  have hP : EncP ((l.take K).set N x) ((l.length : Int) - K) := ⟨by rw [hsl]; exact hM, hset⟩
  rw [encR, if_pos hP]
  simp [delL]
theorem isP_enc {data : Tab} {m : Nat} (hP : EncP data m) : IsP data.length (encL data m) := by
  have hdn := hP.1.ne
  have hel : (encL data m).length = data.length + m := encL_len
  refine ⟨hP.1.1, by rw [hel]; omega, even_of (encL_row hdn hP.2), ?_⟩
  rw [Int.toNat_natCast, encL_data hdn hP.2, show ((encL data m).length : Int) - (data.length : Int) = m by rw [hel]; omega, encR, if_pos hP]
  rfl
theorem not_isP {data : Tab} {m : Nat} (hP : EncP data m) (hm : 1 ≤ m) {n : Nat} (hn : n < (encL data m).length) {x : List UInt8} (hx : x.length = ((encL data m)[n]).length) (hne : x ≠ (encL data m)[n]) : ¬ IsP data.length ((encL data m).set n x) := by
  intro hI
  have hdn := hP.1.ne
  have hE := hP.2
  have hM := hP.1.2.2.2
  have hel : (encL data m).length = data.length + m := encL_len
  have hrow := encL_row (m := m) hdn hE
  obtain ⟨i1, i2, hE', henc⟩ := hI
  rw [Int.toNat_natCast, List.length_set, show ((encL data m).length : Int) - (data.length : Int) = m by rw [hel]; omega] at henc
  have hP' : EncP (((encL data m).set n x).take data.length) m := by
    by_cases h : EncP (((encL data m).set n x).take data.length) m
    · exact h
    · rw [encR, if_neg h] at henc
      have h1 : (1 : Int) = 0 := (Prod.ext_iff.1 henc).2
      exact absurd h1 (by decide)
  rw [encR, if_pos hP', Int.toNat_natCast] at henc
  have henc := (Prod.ext_iff.1 henc).1
  simp only at henc
  by_cases hk : n < data.length
  · have ht : ((encL data m).set n x).take data.length = data.set n x := by rw [List.take_set, encL_data hdn hE]
    rw [ht] at henc hP'
    have hdx : (encL data m)[n] = data[n] := by
      have h1 := encL_data (m := m) hdn hE
      have h2 : (encL data m)[n]? = data[n]? := by rw [← h1, List.getElem?_take, if_pos hk, h1]
      rw [List.getElem?_eq_getElem hn, List.getElem?_eq_getElem hk] at h2
      exact Option.some.inj h2
    have hxr : x.length = (row0 data).length := by rw [hx, hdx]; exact hE _ (List.getElem_mem hk)
    have a1 := encL_get (data := data.set n x) (m := m) (i := data.length) hP'.1.ne hP'.2 (by simp; omega)
    rw [List.length_set, rowMul_set hE hk hxr, henc, List.getElem?_set, if_neg (by omega)] at a1
    have a2 := encL_get (data := data) (m := m) (i := data.length) hdn hE (by omega)
    rw [a2] at a1
    have a3 := Option.some.inj a1
    have hc : (rowN (genL data.length m) data.length)[n]?.getD 0 = gi (cy data.length n) := by
      have := genL_ent (k := data.length) (m := m) (i := data.length) (j := n) (by omega) hk
      rw [if_neg (by omega)] at this
      exact this
    have hc0 : gi (cy data.length n) ≠ 0 := gi_ne (by
      rw [cy_eq]
      exact xor_ne fun e => by have := ofNat8_inj (by omega) (by omega) e; omega)
    rw [hc] at a3
    -- all of the change is 0
    have hz : ∀ j (hj : j < (row0 data).length), gm (data[n][j]?.getD 0 ^^^ x[j]?.getD 0) (gi (cy data.length n)) = 0 := by
      intro j hj
      have hdl : data[n].length = (row0 data).length := hE _ (List.getElem_mem hk)
      have h1 := congrArg (fun l => l[j]?) a3
      simp only [xorL, scaleL, List.getElem?_zipWith, List.getElem?_map] at h1
      rw [List.getElem?_eq_getElem (show j < (rowMul (rowN (genL data.length m) data.length) data).length by rw [row_len]; exact hj), List.getElem?_eq_getElem (show j < data[n].length by omega), List.getElem?_eq_getElem (show j < x.length by omega)] at h1
      simp only [Option.map_some, Option.some.injEq] at h1
      rw [List.getElem?_eq_getElem (show j < data[n].length by omega), List.getElem?_eq_getElem (show j < x.length by omega)]
      simp only [Option.getD_some]
      generalize (rowMul (rowN (genL data.length m) data.length) data)[j]'_ = u at h1
      have h2 : u ^^^ u = u ^^^ (u ^^^ gm (data[n][j] ^^^ x[j]) (gi (cy data.length n))) := by rw [← h1]
      rw [UInt8.xor_self, ← UInt8.xor_assoc, UInt8.xor_self, UInt8.zero_xor] at h2
      exact h2.symm
    apply hne
    rw [hdx]
    apply List.ext_getElem?
    intro j
    by_cases hj : j < (row0 data).length
    · have hdl : data[n].length = (row0 data).length := hE _ (List.getElem_mem hk)
      have h1 := (gm_eq_zero (hz j hj)).resolve_right hc0
      rw [List.getElem?_eq_getElem (show j < data[n].length by omega), List.getElem?_eq_getElem (show j < x.length by omega)] at h1 ⊢
      simp only [Option.getD_some] at h1
      rw [xor_eq_zero.1 h1]
    · have hdl : data[n].length = (row0 data).length := hE _ (List.getElem_mem hk)
      rw [List.getElem?_eq_none (by omega), List.getElem?_eq_none (by omega)]
  · have ht : ((encL data m).set n x).take data.length = data := by rw [List.take_set_of_le (by omega), encL_data hdn hE]
    rw [ht] at henc
    have h1 := congrArg (fun l => l[n]?) henc
    simp only [List.getElem?_set, if_true, hn, List.getElem?_eq_getElem hn] at h1
    exact hne (by simpa using h1.symm)
theorem rsDelta_pure (l : Tab) (k n : Int) (x : List UInt8) (hl : l.length < 2 ^ 48) (_ : ∀ x ∈ l, x.length < 2 ^ 63) (hk : (Lit.int .i64 k).wf = true) (hn : (Lit.int .i64 n).wf = true) (hx : x.length < 2 ^ 63) :
    CPure Try.prog 19 [.agg [SL l, .int .i64 k, .int .i64 n, S x]] (.bool true) := by
  refine CPure.of_sem (k := 1) ?_
  refine CSem.body hm Try.func19 rfl (by kernel_rfl) (by kernel_rfl) (by simp [Try.ntmps19]) ?_
  have hg : (Heap.empty.alloc [SL l, .int .i64 k, .int .i64 n, S x]).get 0 = some [SL l, .int .i64 k, .int .i64 n, S x] := Heap.get_alloc_same _ _
  simp [Try.f19, AV.cells]
  refine wpc_draw 12 (by kernel_rfl) ?_
  simp [fieldAddrX, hg]
  refine (small5_call l (by omega) _).use ?_
  by_cases h1 : SmallP l 14 60
  rotate_left
  · simp [h1]
    refine out05 _ _ ?_
    simp
  by_cases h2 : (100 : Int) < x.length
  · simp [h1, h2]
    refine out05 _ _ ?_
    simp
  have hs := sm_of h1
  simp [h1, h2]
  refine (delta_callS l k n x hs hk hn (by simp)).use ?_
  simp [rL]
  refine (ris_callS k l hs (by simp)).use ?_
  have bad : ¬ DelP l k n x → delR l k n x = ([], 1) := fun h => by rw [delR, if_neg h]
  by_cases h3 : IsP k l
  rotate_left
  · simp [h3, bad (fun h => h3 h.1)]
    refine out05 _ _ ?_
    simp
  by_cases h4 : n < 0
  · simp [h3, h4, bad (fun h => by have := h.2.1; omega)]
    refine out05 _ _ ?_
    simp
  by_cases h5 : k ≤ n
  · simp [h3, h4, h5, bad (fun h => by have := h.2.2.1; omega)]
    refine out05 _ _ ?_
    simp
  have hk1 := h3.1
  have hk2 := h3.2.1
  have hp : 0 < l.length := by omega
  have h0 : l[0]? = some l[0] := List.getElem?_eq_getElem hp
  have hr0 : row0 l = l[0] := by simp [row0, h0]
  by_cases h6 : x.length = l[0].length
  rotate_left
  · simp [h3, h4, h5, hp, h6, bad (fun h => h6 (by rw [← hr0]; exact h.2.2.2))]
    refine out05 _ _ ?_
    simp
  have hD : DelP l k n x := ⟨h3, by omega, by omega, by rw [hr0]; exact h6⟩
  obtain ⟨K, rfl⟩ := Int.eq_ofNat_of_zero_le (by omega : 0 ≤ k)
  obtain ⟨N, rfl⟩ := Int.eq_ofNat_of_zero_le (by omega : 0 ≤ n)
  have hl1 := hs.1
  have hKl : K ≤ l.length := by omega
  have htl : (l.take K).length = K := by rw [List.length_take]; omega
  have htn : l.take K ≠ [] := by intro e; rw [e] at htl; simp at htl; omega
  have hw : IntKind.i64.wrap ((l.length : Int) - K) = (l.length : Int) - K := wrap64 (by omega) (by omega)
  have hap := append_all (P := Try.prog) (h := Heap.empty.alloc [SL l, .int .i64 K, .int .i64 N, S x]) (t := 24) (xt := 24) (by kernel_rfl) S_atom htn (by omega)
  rw [htl] at hap
  have hg1 : ((Heap.empty.alloc [SL l, .int .i64 K, .int .i64 N, S x]).alloc (List.take K (List.map S l))).get 1 = some (List.take K (List.map S l)) := Heap.get_alloc_same _ _
  have hNK : N < K := by omega
  have hg2 := Heap.get_put_same (cs := ((l.take K).set N x).map S) hg1
  have hNKl : N < l.length := by omega
  have hd : delR l K N x = (delL l K N x, 0) := by rw [delR, if_pos hD]
  have hsx : Sm ((l.take K).set N x) := ⟨by rw [List.length_set]; omega, fun y hy => by
    rcases List.mem_or_eq_of_mem_set hy with h | rfl
    · exact hs.2 y (List.mem_of_mem_take h)
    · omega⟩
  obtain ⟨hdl, -⟩ := del_row (K := K) (N := N) hD hp
  have hmap : (List.map S (l.take K)).set N (S x) = ((l.take K).set N x).map S := by rw [List.map_set]
  simp at hap
  simp [h3, h4, h5, hp, h6, hd, hKl, hap, hg1, hNK, hNKl, hw]
  have hmt : (List.take K (List.map S l)).set N (S x) = ((l.take K).set N x).map S := by rw [← List.map_take, List.map_set]
  rw [hmt]
  refine (renc_callS ((l.take K).set N x) _ hsx (x := .sl 1 0 K K 1) (snap_own hg2 (by rw [List.length_set]; exact htl.symm) (fun _ => rfl))).use ?_
  rw [del_enc hD]
  simp [rL]
  refine (same_call (delL l K N x) (delL l K N x) (by omega) (by simp) (by simp)).use ?_
  simp
  refine out05 _ _ ?_
  simp
theorem rsChanged_pure (data : Tab) (m n : Int) (x : List UInt8) (hl : data.length < 2 ^ 48) (_ : ∀ x ∈ data, x.length < 2 ^ 63) (hk : (Lit.int .i64 m).wf = true) (hn : (Lit.int .i64 n).wf = true) (hx : x.length < 2 ^ 63) :
    CPure Try.prog 21 [.agg [SL data, .int .i64 m, .int .i64 n, S x]] (.bool true) := by
  refine CPure.of_sem (k := 1) ?_
  refine CSem.body hm Try.func21 rfl (by kernel_rfl) (by kernel_rfl) (by simp [Try.ntmps21]) ?_
  have hg : (Heap.empty.alloc [SL data, .int .i64 m, .int .i64 n, S x]).get 0 = some [SL data, .int .i64 m, .int .i64 n, S x] := Heap.get_alloc_same _ _
  simp [Try.f21, AV.cells]
  refine wpc_draw 12 (by kernel_rfl) ?_
  simp [fieldAddrX, hg]
  refine (small5_call data (by omega) _).use ?_
  by_cases h1 : SmallP data 14 60
  rotate_left
  · simp [h1]
    refine out05 _ _ ?_
    simp
  by_cases h2 : m < 1
  · simp [h1, h2]
    refine out05 _ _ ?_
    simp
  by_cases h3 : 6 < m
  · simp [h1, h2, h3]
    refine out05 _ _ ?_
    simp
  have hs := sm_of h1
  simp [h1, h2, h3]
  refine (enc_callS data m hs (by simp)).use ?_
  by_cases hP : EncP data m
  rotate_left
  · simp [rL, encR, hP]
    refine out05 _ _ ?_
    simp
  obtain ⟨M, rfl⟩ := Int.eq_ofNat_of_zero_le hP.1.2.1
  have hsl : Sm (encL data M) := by
    have hg := gen_sm hP.1
    rw [Int.toNat_natCast, Int.toNat_natCast] at hg
    exact spreadL_sm hg hs
  by_cases h4 : n < 0
  · simp [rL, encR, hP, h4]
    refine out05 _ _ ?_
    simp
  by_cases h5 : ((encL data M).length : Int) ≤ n
  · simp [rL, encR, hP, h4, h5]
    refine out05 _ _ ?_
    simp
  obtain ⟨N, rfl⟩ := Int.eq_ofNat_of_zero_le (by omega : 0 ≤ n)
  have hN : N < (encL data M).length := by omega
  by_cases h6 : x.length = ((encL data M)[N]).length
  rotate_left
  · simp [rL, encR, hP, h4, h5, hN, h6]
    refine out05 _ _ ?_
    simp
  by_cases h7 : x = (encL data M)[N]
  · simp [rL, encR, hP, h4, h5, hN, h6, h7]
    refine out05 _ _ ?_
    simp
  have hne : encL data M ≠ [] := by intro e; rw [e] at hN; simp at hN
  have hap := append_all (P := Try.prog) (h := Heap.empty.alloc [SL data, .int .i64 M, .int .i64 N, S x]) (t := 24) (xt := 24) (by kernel_rfl) S_atom hne hsl.1
  have hg1 : ((Heap.empty.alloc [SL data, .int .i64 M, .int .i64 N, S x]).alloc ((encL data M).map S)).get 1 = some ((encL data M).map S) := Heap.get_alloc_same _ _
  have hg2 := Heap.get_put_same (cs := ((encL data M).set N x).map S) hg1
  simp at hap
  simp [rL, encR, hP, h4, h5, hN, h6, h7, hap, hg1]
  refine (is_callS data.length (encL data M) hsl (by simp)).use ?_
  simp [isP_enc hP]
  have hsx : Sm ((encL data M).set N x) := ⟨by rw [List.length_set]; exact hsl.1, fun y hy => by
    rcases List.mem_or_eq_of_mem_set hy with h | rfl
    · exact hsl.2 y h
    · rw [h6]; exact hsl.2 _ (List.getElem_mem hN)⟩
  rw [show (List.map S (encL data M)).set N (S x) = ((encL data M).set N x).map S by rw [List.map_set]]
  refine (is_callS data.length ((encL data M).set N x) hsx (x := .sl 1 0 (encL data M).length (encL data M).length 1) (snap_own hg2 (by rw [List.length_set]) (fun _ => rfl))).use ?_
  have := not_isP hP (by omega) hN h6 h7
  simp [this]
  refine out05 _ _ ?_
  simp
end Go.Proofs.Ytmpeghcilhcpjaa.X
