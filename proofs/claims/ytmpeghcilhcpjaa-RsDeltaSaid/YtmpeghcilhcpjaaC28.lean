/-
  Contracts: slices.Clone, rs.Delta.
-/
import Derived.Test.YtmpeghcilhcpjaaD06
namespace Go.Proofs.Ytmpeghcilhcpjaa.X
open Go.RowKit F
set_option maxRecDepth 100000
set_option linter.unusedSimpArgs false
set_option linter.unusedVariables false

theorem binX_TL_nil {P : Program} {t e : TypeId} (ht : P.underlying t = some (.slice e)) {α : Type} {f : α → AV} {l : List α} (hl : l ≠ []) : binX P .eql t (TL f l) .nilSl = some (.bool false) := by
  have h0 : l.length ≠ 0 := by simpa using hl
  simp [binX, eqX, ht, tyK, AV.cls, TL, AV.isNil?, hl]
theorem clone_own (l : Tab) (hl : l ≠ []) (hn : l.length < 2 ^ 40) : CSem Try.prog 71 [SL l] Heap.empty fun x h => ∃ b, x = .sl b 0 l.length l.length 1 ∧ h.get b = some (l.map S) := by
  refine CSem.body hm Try.func71 rfl (by kernel_rfl) (by kernel_rfl) (by simp [Try.ntmps71]) ?_
  have h1 : buildSliceX Try.prog Heap.empty 24 0 [] = some (.sl 0 0 0 0 1, Heap.empty.alloc []) := by kernel_rfl
  have hg : (Heap.empty.alloc []).get 0 = some [] := Heap.get_alloc_same _ _
  have h2 : appendX Try.prog (Heap.empty.alloc []) 24 24 (.sl 0 0 0 0 1) (SL l) = some (.sl 1 0 l.length l.length 1, ((Heap.empty.alloc []).kill 0).alloc (l.map S)) := by
    have ha : apT Try.prog 24 24 = true := by kernel_rfl
    obtain ⟨e, bytes, z, he, hz, hap, hb, hb2, hza, hat⟩ := apT_ok ha
    have hf1 : firstX (Heap.empty.alloc []) 1 l.length (SL l) = some (l.map S) := by
      simp only [firstX, TL, Nat.mul_one]
      exact takeN_all (by simp)
    have h64 : l.length * bytes ≤ 2 ^ 47 := by
      have : l.length * bytes ≤ (2 ^ 40) * 64 := Nat.mul_le_mul (by omega) hb2
      omega
    have hlen : (SL l).len? = some l.length := rfl
    have h0 : ¬ l.length = 0 := by simpa using hl
    have h47 : l.length ≤ 2 ^ 47 := by omega
    simp only [appendX, elT_und he, hz, hb, hap, hlen, hf1, hg]
    simp [hl, h64, h47, takeN]
  simp [Try.f71, binX_TL_nil (P := Try.prog) (Try.underlying24) hl, h1, h2]
  exact Heap.get_alloc_same ((Heap.empty.alloc []).kill 0) (l.map S)
theorem clone_call (l : Tab) (hl : l ≠ []) (hn : l.length < 2 ^ 40) {h : Heap} {x : AV} (hx : snap h true 2 x = some (SL l)) : CSem Try.prog 71 [x] h fun x' h' => x' = .sl h.next 0 l.length l.length 1 ∧ h' = h.alloc (l.map S) :=
  CSem.fresh (k := 2) (n := 1) (F := fun b => .sl b 0 l.length l.length 1) (by simp [hx]) (Hangs.sl _ _ _) (rig_S l) (clone_own l hl hn)

/-- What Delta tells. -/
def DelP (l : Tab) (k n : Int) (x : List UInt8) : Prop := IsP k l ∧ 0 ≤ n ∧ n < k ∧ x.length = (row0 l).length
instance (l : Tab) (k n : Int) (x : List UInt8) : Decidable (DelP l k n x) := by unfold DelP; exact inferInstance
def delL (l : Tab) (k n : Int) (x : List UInt8) : Tab := encL ((l.take k.toNat).set n.toNat x) (l.length - k).toNat
def delR (l : Tab) (k n : Int) (x : List UInt8) : Tab × Int := if DelP l k n x then (delL l k n x, 0) else ([], 1)
/-- One row of what Delta tells. -/
theorem del_row {l : Tab} {K N : Nat} {x : List UInt8} (h : DelP l K N x) {i : Nat} (hi : i < l.length) :
    (delL l K N x).length = l.length ∧ ∃ y c, l[i]? = some y ∧ (rowN (genL K (l.length - K)) i)[N]? = some c ∧ (delL l K N x)[i]? = some (xorL y (scaleL (xorL (rowN l N) x) c)) ∧ y.length = x.length ∧ (rowN l N).length = x.length := by
  obtain ⟨hI, h0, hn, hx⟩ := h
  obtain ⟨i1, i2, hE, henc⟩ := hI
  have hM : GMay (K : Int) (l.length - K) := by
    have : IsP K l := ⟨i1, i2, hE, henc⟩
    exact this.may
  have hP : EncP (l.take ((K : Int)).toNat) (l.length - K) := by
    by_cases hP : EncP (l.take ((K : Int)).toNat) (l.length - K)
    · exact hP
    · rw [encR, if_neg hP] at henc; cases henc
  rw [encR, if_pos hP] at henc
  have hKl : K ≤ l.length := by omega
  have hm : ((l.length : Int) - K).toNat = l.length - K := by omega
  have htl : (l.take K).length = K := by simp; omega
  simp only [Int.toNat_natCast, hm] at henc hP
  have henc := (Prod.ext_iff.1 henc).1
  simp only at henc
  have hdn := hP.1.ne
  have hDE := hP.2
  have hN : N < (l.take K).length := by omega
  have hrow0 : row0 (l.take K) = row0 l := by
    have hk1 : 0 < K := by omega
    simp [row0, List.getElem?_take, hk1]
  have hset : EvenP ((l.take K).set N x) := even_of (w := x.length) fun y hy => by
    rcases List.mem_or_eq_of_mem_set hy with h | rfl
    · rw [hDE y h]; exact (congrArg List.length hrow0).trans hx.symm
    · rfl
  have hsl : ((l.take K).set N x).length = K := by rw [List.length_set, htl]
  have hsn : (l.take K).set N x ≠ [] := by
    intro e
    rw [e] at hsl
    simp at hsl
    omega
  have hd : delL l K N x = encL ((l.take K).set N x) (l.length - K) := by simp [delL, hm]
  refine ⟨by rw [hd, encL_len, hsl]; omega, l[i], (rowN (genL K (l.length - K)) i)[N]'(by rw [genL_row (by omega)]; omega), List.getElem?_eq_getElem hi, List.getElem?_eq_getElem _, ?_, ?_, ?_⟩
  · have hgl : N < (rowN (genL K (l.length - K)) i).length := by rw [genL_row (by omega)]; omega
    have a1 := encL_get (data := (l.take K).set N x) (m := l.length - K) (i := i) hsn hset (by rw [hsl]; omega)
    rw [hsl] at a1
    rw [hd, a1, rowMul_set hDE hN (by rw [hrow0]; exact hx)]
    have a2 := encL_get (data := l.take K) (m := l.length - K) (i := i) hdn hDE (by rw [htl]; omega)
    rw [htl, henc, List.getElem?_eq_getElem hi] at a2
    rw [← Option.some.inj a2]
    have a3 : (l.take K)[N] = rowN l N := by simp [rowN, List.getElem?_eq_getElem (show N < l.length by omega)]
    rw [a3, List.getElem?_eq_getElem hgl]
    rfl
  · rw [hE _ (List.getElem_mem hi)]; exact hx.symm
  · have : rowN l N ∈ l := by rw [rowN, List.getElem?_eq_getElem (show N < l.length by omega)]; exact List.getElem_mem _
    rw [hE _ this]; exact hx.symm
theorem xorL_zeros {a b : List UInt8} (hl : a.length = b.length) (hb : ∀ y ∈ b, y = 0) : xorL a b = a := by
  apply List.ext_getElem?
  intro i
  simp only [xorL, List.getElem?_zipWith]
  by_cases hi : i < a.length
  · have h1 : b[i] = 0 := hb _ (List.getElem_mem (by omega : i < b.length))
    simp [List.getElem?_eq_getElem hi, List.getElem?_eq_getElem (show i < b.length by omega), h1]
  · simp [List.getElem?_eq_none (show a.length ≤ i by omega)]
def DlInv (l : Tab) (K N : Nat) (x : List UInt8) (b : Nat) (i : Nat) (r : Regs) (h : Heap) : Prop :=
  i ≤ l.length ∧ rg r 2 = .int .i64 N ∧ rg r 12 = S (xorL (rowN l N) x) ∧ rg r 14 = .sl b 0 l.length l.length 1 ∧ rg r 60 = SL (genL K (l.length - K)) ∧ rg r 61 = .int .i64 l.length ∧ rg r 62 = .int .i64 i ∧
  h.get b = some ((mid (delL l K N x) l i).map S)
theorem delta_fresh (l : Tab) (k n : Int) (x : List UInt8) (h : Sm l) (hk : (Lit.int .i64 k).wf = true) (hn : (Lit.int .i64 n).wf = true) : FreshL Try.prog 53 [SL l, .int .i64 k, .int .i64 n, S x] (delR l k n x).1 (delR l k n x).2 := by
  refine CSem.body hm Try.func53 rfl (by kernel_rfl) (by kernel_rfl) (by simp [Try.ntmps53]) ?_
  have bad : ¬ DelP l k n x → delR l k n x = ([], 1) := fun h => by rw [delR, if_neg h]
  simp [Try.f53]
  refine (is_callS k l h (by simp)).use ?_
  by_cases h1 : IsP k l
  rotate_left
  · simp [h1, bad (fun h => h1 h.1), FrQ.nil]
  by_cases h2 : n < 0
  · simp [h1, h2, bad (fun h => by have := h.2.1; omega), FrQ.nil]
  by_cases h3 : k ≤ n
  · simp [h1, h2, h3, bad (fun h => by have := h.2.2.1; omega), FrQ.nil]
  have hk1 := h1.1
  have hk2 := h1.2.1
  have hp : 0 < l.length := by omega
  have h0 : l[0]? = some l[0] := List.getElem?_eq_getElem hp
  have hr0 : row0 l = l[0] := by simp [row0, h0]
  by_cases h4 : x.length = l[0].length
  rotate_left
  · simp [h1, h2, h3, hp, h0, h4, bad (fun h => h4 (by rw [← hr0]; exact h.2.2.2)), FrQ.nil]
  have hD : DelP l k n x := ⟨h1, by omega, by omega, by rw [hr0]; exact h4⟩
  have hl1 := h.1
  obtain ⟨K, rfl⟩ := Int.eq_ofNat_of_zero_le (by omega : 0 ≤ k)
  obtain ⟨N, rfl⟩ := Int.eq_ofNat_of_zero_le (by omega : 0 ≤ n)
  have hw : IntKind.i64.wrap ((l.length : Int) - K) = (l.length : Int) - K := wrap64 (by omega) (by omega)
  have hM := h1.may
  have hm' : ((l.length : Int) - K).toNat = l.length - K := by omega
  have hg : genR (K : Int) ((l.length : Int) - K) = (genL K (l.length - K), 0) := by rw [genR, if_pos hM, hm']; rfl
  have hNl : N < l.length := by omega
  have hNx : l[N]? = some l[N] := List.getElem?_eq_getElem hNl
  have hrN : rowN l N = l[N] := by rw [rowN, hNx]; rfl
  have hne : l ≠ [] := List.length_pos_iff.1 hp
  have hgl : (genL K (l.length - K)).length = l.length := by rw [genL_len]; omega
  obtain ⟨hdl, -⟩ := del_row (K := K) (N := N) hD hp
  have hlN : l[N].length = x.length := by rw [← hrN]; exact (del_row (K := K) (N := N) hD hp).2.choose_spec.choose_spec.2.2.2.2
  have hadd : addT l[N] x = some (xorL (rowN l N) x) := by rw [addT, if_pos hlN, hrN]
  have hxs : (xorL (rowN l N) x).length < 2 ^ 40 := by
    have := h.2 l[N] (List.getElem_mem hNl)
    simp [xorL, hrN]
    omega
  have h0' : ∀ {i : Nat} (y : List UInt8), l[i]? = some y → y.length < 2 ^ 40 := fun y hy => by
    obtain ⟨h1, h2⟩ := List.getElem?_eq_some_iff.1 hy
    rw [← h2]
    exact h.2 _ (List.getElem_mem h1)
  simp [h1, h2, h3, hp, h0, h4, hw]
  refine (gen_call _ _ _).use ?_
  simp [rL, hg, hNl, hNx]
  refine (vadd_call _ _ (h.2 _ (List.getElem_mem hNl)) _).use ?_
  rw [hadd]
  simp [rS]
  refine (clone_call (x := SL l) l hne hl1 (snap_SL l)).then ?_
  rintro _ _ ⟨rfl, rfl⟩
  simp [hgl]
  refine wpc_loop (DlInv l K N x 0) (l.length - ·) ?_ 0 ?_
  · rintro i r hp ⟨hi, g2, g12, g14, g60, g61, g62, hb⟩
    rcases Nat.lt_or_eq_of_le hi with hlt | heq
    · obtain ⟨-, y, c, hy, hc, hd, hyl, hrl⟩ := del_row (K := K) (N := N) hD hlt
      have hig : i < (genL K (l.length - K)).length := by omega
      have hgx : (genL K (l.length - K))[i] = rowN (genL K (l.length - K)) i := by rw [rowN, List.getElem?_eq_getElem hig]; rfl
      have hcN : (rowN (genL K (l.length - K)) i)[N]? = some c := hc
      have hml : (mid (delL l K N x) l i).length = l.length := mid_length hdl hi
      have hmi : (mid (delL l K N x) l i)[i]? = some y := by rw [mid_get hdl hi, hy]
      by_cases hz : c = 0
      · simp [g2, g12, g14, g60, g61, g62, hlt, hig, hgx, hcN, hz]
        refine ⟨i + 1, by omega, by omega, by simp [g2], by simp [g12], by simp [g14], by simp [g60], by simp [g61], by simp [wrap64 (n := (i : Int) + 1) (by omega) (by omega)], ?_⟩
        have e : xorL y (scaleL (xorL (rowN l N) x) c) = y := xorL_zeros (by simp [scaleL, xorL, hyl, hrl]) (by
          intro q hq
          obtain ⟨u, _, rfl⟩ := List.mem_map.1 hq
          rw [hz, gm_zero])
        rw [e] at hd
        rw [← mid_set hdl hlt hd]
        have : (mid (delL l K N x) l i).set i y = mid (delL l K N x) l i := by
          obtain ⟨h1, h2⟩ := List.getElem?_eq_some_iff.1 hmi
          rw [← h2]; simp
        rw [this]; exact hb
      · have hsum : addT y (scaleL (xorL (rowN l N) x) c) = some (xorL y (scaleL (xorL (rowN l N) x) c)) := by rw [addT, if_pos (by simp [scaleL, xorL, hyl, hrl])]
        simp [g2, g12, g14, g60, g61, g62, hlt, hig, hgx, hcN, hz]
        refine wpc_plL [(true, 0), (true, 1), (true, 2), (true, 3), (true, 4), (true, 6), (true, 7), (true, 8), (false, 5), (true, 9), (true, 10), (true, 11), (true, 12), (true, 13), (false, 14)] (by kernel_rfl) ?_
        simp [g2, g12, g14, g60, g61, g62, hlt]
        refine FCall.use (fun h => scale_call _ _ h (by omega)) ?_
        have hmi' : (mid (delL l K N x) l i)[i]'(by rw [hml]; exact hlt) = y := by
          obtain ⟨h1, h2⟩ := List.getElem?_eq_some_iff.1 hmi
          exact h2
        simp [hb, hml, hmi', hlt]
        refine FCall.use (fun h => vadd_call y _ (h0' y hy) h) ?_
        rw [hsum]
        simp [rS, hb, hml, hlt, g62]
        refine ⟨i + 1, by omega, by omega, by simp [g2], by simp [g12], by simp [g14], by simp [g60], by simp [g61], by simp [g62, wrap64 (n := (i : Int) + 1) (by omega) (by omega)], ?_⟩
        rw [Heap.get_put_same hb, ← List.map_set, mid_set hdl hlt hd]
    · have hfull : mid (delL l K N x) l l.length = delL l K N x := mid_full hdl
      rw [heq, hfull] at hb
      simp [g2, g12, g14, g60, g61, g62, heq, delR, hD]
      exact FrQ.sl (by omega) hb
  · refine ⟨Nat.zero_le _, by simp, by simp, by simp, by simp, by simp, by simp, ?_⟩
    rw [mid_zero]
    exact Heap.get_alloc_same _ _
theorem delta_callS (l : Tab) (k n : Int) (x : List UInt8) (h : Sm l) (hk : (Lit.int .i64 k).wf = true) (hn : (Lit.int .i64 n).wf = true) {hp : Heap} {y : AV} (hy : snap hp true 2 y = some (SL l)) :
    CSem Try.prog 53 [y, .int .i64 k, .int .i64 n, S x] hp fun x' h' => x' = rL (delR l k n x).1 (delR l k n x).2 ∧ h' = hp := (delta_fresh l k n x h hk hn).pure.call (k := 2) (by simp [hy])
end Go.Proofs.Ytmpeghcilhcpjaa.X
