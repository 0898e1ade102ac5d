/-
  Contracts: vec.Add; sheetpileref02.Add, Scale, Gather; sheetpileref05.one; slices.Equal.
-/
import Derived.Test.YtgcfmodgabeocaaDoorC23
namespace Go.Proofs.YtgcfmodgabeocaaDoor.X
open Go.RowKit F
set_option maxRecDepth 100000
set_option linter.unusedSimpArgs false
set_option linter.unusedVariables false

theorem xorL_zero {n : Nat} {a : List UInt8} (ha : a.length = n) : xorL (List.replicate n 0) a = a := by
  subst ha
  apply List.ext_getElem?
  intro i
  simp only [xorL, List.getElem?_zipWith, List.getElem?_replicate]
  by_cases hi : i < a.length
  · simp [hi]
  · simp [hi]
theorem take1 {α : Type} {l : List α} {x : α} (h : l[0]? = some x) : l.take 1 = [x] := by
  cases l with
  | nil => simp at h
  | cons y l => simp at h; simp [h]
/-- The sum of two texts of one length. -/
def addT (a b : List UInt8) : Option (List UInt8) := if a.length = b.length then some (xorL a b) else none
theorem convX_own {P : Program} {h : Heap} {s d : TypeId} (hd : strT P d = true) (hs : (elT P s).bind (intT P) = some .u8) {x : AV} {l : List UInt8} (ho : Own h x (l.map B8)) : convX P h s d x = some (S l, h) := by
  rcases ho with ⟨rfl, h0⟩ | ⟨b, rfl, hg⟩
  · have : l = [] := by simpa using h0
    subst this
    obtain ⟨e, he, hs⟩ := Option.bind_eq_some_iff.1 hs
    simp only [convX, strT_und hd, elT_und he, intT_und hs, AV.len?, firstX]
    rfl
  · rw [convX_sl_str hd hs]
    simp [hg]
def RaInv (a b : List UInt8) (i : Nat) (r : Regs) (h : Heap) : Prop :=
  i ≤ a.length ∧ rg r 0 = S a ∧ rg r 1 = S b ∧ rg r 7 = .int .i64 i ∧ Own h (rg r 6) (((xorL a b).take i).map B8)
theorem radd_pure (a b : List UInt8) (ha : a.length < 2 ^ 40) : CPure Tryd.prog 70 [S a, S b] (rS 1 (addT a b)) := by
  refine CPure.of_sem (k := 2) ?_
  refine CSem.body hm Tryd.func70 rfl (by kernel_rfl) (by kernel_rfl) (by simp [Tryd.ntmps70]) ?_
  by_cases h1 : a.length = b.length
  rotate_left
  · simp [Tryd.f70, h1, addT, rS]
  simp [Tryd.f70, ← h1]
  refine wpc_loop (RaInv a b) (a.length - ·) ?_ 0 ?_
  · rintro i r h ⟨hi, g0, g1, g7, ho⟩
    have hxl : (xorL a b).length = a.length := by simp [xorL, h1]
    rcases Nat.lt_or_eq_of_le hi with hlt | heq
    · have hx : a[i]? = some a[i] := List.getElem?_eq_getElem hlt
      have hy : b[i]? = some b[i] := List.getElem?_eq_getElem (by omega)
      have hz : (xorL a b)[i]? = some (a[i] ^^^ b[i]) := by simp [xorL, List.getElem?_zipWith, hx, hy]
      obtain ⟨x', h', e, ho', hnx, hat, hk⟩ := append_own (P := Tryd.prog) (t := 45) (xt := 45) (by kernel_rfl) ho (by simp; omega) (B8_atom (a[i] ^^^ b[i]))
      simp [g0, g1, g7, hlt]
      refine wpc_tk 8 3 (by kernel_rfl) ?_
      simp [g0, g1, g7, hlt, hx, hy]
      simp [buildSlice_one (P := Tryd.prog) (t := 45) (xt := 45) (by kernel_rfl), e, g0, g1, g7]
      refine ⟨i + 1, by omega, by omega, by simp [g0], by simp [g1], by simp [wrap64 (n := (i : Int) + 1) (by omega) (by omega)], ?_⟩
      rw [take_map_succ _ hz]
      simpa using ho'
    · rw [heq, List.take_of_length_le (by omega)] at ho
      simp [g0, g1, g7, heq, convX_own (P := Tryd.prog) (s := 45) (d := 9) (by kernel_rfl) (by kernel_rfl) ho, addT, h1, rS]
  · simp [RaInv, Own]
theorem radd_call (a b : List UInt8) (ha : a.length < 2 ^ 40) (h : Heap) : CSem Tryd.prog 70 [S a, S b] h fun x' h' => x' = rS 1 (addT a b) ∧ h' = h := (radd_pure a b ha).call (k := 1) (by simp)

def RsInv (a : List UInt8) (c : UInt8) (i : Nat) (r : Regs) (h : Heap) : Prop :=
  i ≤ a.length ∧ rg r 0 = S a ∧ rg r 1 = B8 c ∧ rg r 6 = .int .i64 i ∧ Own h (rg r 5) (((scaleL a c).take i).map B8)
theorem rscale_pure (a : List UInt8) (c : UInt8) (ha : a.length < 2 ^ 40) : CPure Tryd.prog 69 [S a, B8 c] (S (scaleL a c)) := by
  refine CPure.of_sem (k := 2) ?_
  refine CSem.body hm Tryd.func69 rfl (by kernel_rfl) (by kernel_rfl) (by simp [Tryd.ntmps69]) ?_
  simp [Tryd.f69]
  refine wpc_loop (RsInv a c) (a.length - ·) ?_ 0 ?_
  · rintro i r h ⟨hi, g0, g1, g6, ho⟩
    have hxl : (scaleL a c).length = a.length := by simp [scaleL]
    rcases Nat.lt_or_eq_of_le hi with hlt | heq
    · have hx : a[i]? = some a[i] := List.getElem?_eq_getElem hlt
      have hz : (scaleL a c)[i]? = some (gm a[i] c) := by simp [scaleL, hx]
      obtain ⟨x', h', e, ho', hnx, hat, hk⟩ := append_own (P := Tryd.prog) (t := 45) (xt := 45) (by kernel_rfl) ho (by simp; omega) (B8_atom (gm a[i] c))
      simp [g0, g1, g6, hlt, hx]
      refine (rmul_call _ _ _).use ?_
      simp [buildSlice_one (P := Tryd.prog) (t := 45) (xt := 45) (by kernel_rfl), e, g0, g1, g6]
      refine ⟨i + 1, by omega, by omega, by simp [g0], by simp [g1], by simp [wrap64 (n := (i : Int) + 1) (by omega) (by omega)], ?_⟩
      rw [take_map_succ _ hz]
      simpa using ho'
    · rw [heq, List.take_of_length_le (by omega)] at ho
      simp [g0, g1, g6, heq, convX_own (P := Tryd.prog) (s := 45) (d := 9) (by kernel_rfl) (by kernel_rfl) ho]
  · simp [RsInv, Own]
theorem rscale_call (a : List UInt8) (c : UInt8) (ha : a.length < 2 ^ 40) (h : Heap) : CSem Tryd.prog 69 [S a, B8 c] h fun x' h' => x' = S (scaleL a c) ∧ h' = h := (rscale_pure a c ha).call (k := 1) (by simp)

def RgInv (c : List UInt8) (l : Tab) (i : Nat) (r : Regs) (_ : Heap) : Prop :=
  1 ≤ i ∧ i ≤ l.length ∧ rg r 0 = BL c ∧ rg r 1 = SL l ∧ rg r 7 = .int .i64 i ∧ (∀ x ∈ l.take i, x.length = (l[0]?.getD []).length) ∧ rg r 6 = S (sumL (l[0]?.getD []).length ((scaled c l).take i))
theorem rgather_pure (c : List UInt8) (l : Tab) (hl : l.length < 2 ^ 40) (hx : ∀ x ∈ l, x.length < 2 ^ 40) : CPure Tryd.prog 47 [BL c, SL l] (rS 1 (gatherL c l)) := by
  refine CPure.of_sem (k := 2) ?_
  refine CSem.body hm Tryd.func47 rfl (by kernel_rfl) (by kernel_rfl) (by simp [Tryd.ntmps47]) ?_
  by_cases h1 : c.length = l.length
  rotate_left
  · simp [Tryd.f47, h1, gatherL, rS]
  by_cases h2 : l.length = 0
  · simp [Tryd.f47, h1, h2, gatherL, rS, List.length_eq_zero_iff.1 h2]
  have hp : 0 < l.length := by omega
  have h0 : l[0]? = some l[0] := List.getElem?_eq_getElem (by omega)
  have hc0 : c[0]? = some c[0] := List.getElem?_eq_getElem (by omega)
  have hlen0 := hx _ (List.getElem_mem hp)
  have hsl : (scaled c l).length = l.length := by simp [scaled, h1]
  simp [Tryd.f47, h1, h2]
  refine wpc_tk 8 0 (by kernel_rfl) ?_
  have hp2 : 0 < c.length := by omega
  simp [h1, hp, hp2, h0, hc0]
  refine FCall.use (fun h => rscale_call l[0] c[0] hlen0 h) ?_
  simp
  refine wpc_loop (RgInv c l) (l.length - ·) ?_ 1 ?_
  · rintro i r h ⟨hi1, hi, g0, g1, g7, ha, g6⟩
    rcases Nat.lt_or_eq_of_le hi with hlt | heq
    · have hr : l[i]? = some l[i] := List.getElem?_eq_getElem hlt
      have hc : c[i]? = some c[i] := List.getElem?_eq_getElem (by omega)
      have hcl : i < c.length := by omega
      have hz : (scaled c l)[i]? = some (scaleL l[i] c[i]) := by simp [scaled, List.getElem?_zipWith, hr, hc]
      have hrow : ∀ x ∈ (scaled c l).take i, x.length = (l[0]?.getD []).length := by
        intro x hxm
        obtain ⟨j, hj, rfl⟩ := List.getElem_of_mem hxm
        have hjl : j < i := by simp at hj; omega
        have := ha l[j] (List.mem_take_iff_getElem.2 ⟨j, by omega, rfl⟩)
        rw [← this]
        simp [scaled, List.getElem_zipWith, scaleL]
      have hsum : (sumL (l[0]?.getD []).length ((scaled c l).take i)).length = l[0].length := by rw [sumL_length hrow, h0]; rfl
      simp [g0, g1, g7, hlt]
      refine wpc_tk 16 0 (by kernel_rfl) ?_
      simp [g0, g1, g6, g7, hlt, hr, hc, hcl]
      refine FCall.use (fun h => rscale_call l[i] c[i] (hx _ (List.getElem_mem hlt)) h) ?_
      simp [g0, g1, g6, g7]
      refine FCall.use (fun h => radd_call _ _ (by rw [hsum]; exact hlen0) h) ?_
      by_cases he : l[i].length = l[0].length
      · have hadd : addT (sumL (l[0]?.getD []).length ((scaled c l).take i)) (scaleL l[i] c[i]) = some (sumL (l[0]?.getD []).length ((scaled c l).take (i + 1))) := by
          rw [addT, if_pos (by rw [hsum]; simp [scaleL, he]), sumL_take (by omega)]
          rw [List.getElem?_eq_getElem (by omega : i < (scaled c l).length)] at hz
          rw [Option.some.inj hz]
        rw [hadd]
        simp [rS, g0, g1, g6, g7]
        refine ⟨i + 1, by omega, by omega, by omega, by simp [g0], by simp [g1], by simp [wrap64 (n := (i : Int) + 1) (by omega) (by omega)], all_take_succ ha hr (by rw [h0]; exact he), by simp⟩
      · have hadd : addT (sumL (l[0]?.getD []).length ((scaled c l).take i)) (scaleL l[i] c[i]) = none := by
          rw [addT, if_neg (by rw [hsum]; simp [scaleL]; omega)]
        rw [hadd]
        have : gatherL c l = none := by
          rw [gatherL, if_neg]
          rintro ⟨-, -, h3⟩
          exact he (by have := h3 _ (List.getElem_mem hlt); rw [h0] at this; exact this)
        simp [rS, g0, g1, g6, g7, this]
    · have hg : gatherL c l = some (sumL (l[0]?.getD []).length (scaled c l)) := by
        rw [gatherL, if_pos ⟨h1, by rintro rfl; simp at hp, fun x hxm => ha x (by rw [heq, List.take_length]; exact hxm)⟩]
      rw [heq, List.take_of_length_le (by omega)] at g6
      simp [g0, g1, g6, g7, heq, hg, rS]
  · refine ⟨Nat.le_refl _, hp, by simp, by simp, by simp, ?_, ?_⟩
    · intro x hxm
      rw [take1 h0] at hxm
      simp at hxm
      rw [hxm, h0]; rfl
    · simp
      have hz : (scaled c l)[0]? = some (scaleL l[0] c[0]) := by simp [scaled, List.getElem?_zipWith, h0, hc0]
      have : (scaled c l).take 1 = [scaleL l[0] c[0]] := take1 hz
      rw [this, sumL, List.foldl_cons, List.foldl_nil, xorL_zero (by simp [scaleL, h0])]
theorem rgather_call (c : List UInt8) (l : Tab) (hl : l.length < 2 ^ 40) (hx : ∀ x ∈ l, x.length < 2 ^ 40) {h : Heap} {x : AV} (hs : snap h true 2 x = some (BL c)) :
    CSem Tryd.prog 47 [x, SL l] h fun x' h' => x' = rS 1 (gatherL c l) ∧ h' = h := (rgather_pure c l hl hx).call (k := 2) (by simp [hs])

/-- Texts of one length. -/
def EvenP (l : Tab) : Prop := ∀ x ∈ l, x.length = (l[0]?.getD []).length
instance (l : Tab) : Decidable (EvenP l) := by unfold EvenP; exact inferInstance
def OnInv (l : Tab) (i : Nat) (r : Regs) (_ : Heap) : Prop := i ≤ l.length ∧ rg r 0 = SL l ∧ rg r 3 = .int .i64 i ∧ ∀ x ∈ l.take i, x.length = (l[0]?.getD []).length
theorem one_pure (l : Tab) (hl : l.length < 2 ^ 60) : CPure Tryd.prog 37 [SL l] (.bool (decide (EvenP l))) := by
  refine CPure.of_sem (k := 1) ?_
  refine CSem.body hm Tryd.func37 rfl (by kernel_rfl) (by kernel_rfl) (by simp [Tryd.ntmps37]) ?_
  simp [Tryd.f37]
  refine wpc_loop (OnInv l) (l.length - ·) ?_ 0 ?_
  · rintro i r h ⟨hi, g0, g3, ha⟩
    rcases Nat.lt_or_eq_of_le hi with hlt | heq
    · have hr : l[i]? = some l[i] := List.getElem?_eq_getElem hlt
      have hp : 0 < l.length := by omega
      have h0 : l[0]? = some l[0] := List.getElem?_eq_getElem hp
      simp [g0, g3, hlt]
      refine wpc_tk 10 0 (by kernel_rfl) ?_
      simp [g0, g3, hlt, hr, hp, h0]
      by_cases he : l[i].length = l[0].length
      · simp [he, g0, g3]
        exact ⟨i + 1, by omega, by omega, by simp [g0], by simp [g3, wrap64 (n := (i : Int) + 1) (by omega) (by omega)], all_take_succ ha hr (by rw [h0]; exact he)⟩
      · have : ¬ EvenP l := fun hE => he (by have := hE _ (List.getElem_mem hlt); rw [h0] at this; exact this)
        simp [he, this]
    · have : EvenP l := fun x hx => ha x (by rw [heq, List.take_length]; exact hx)
      simp [g0, g3, heq, this]
  · simp [OnInv]
theorem one_callS (l : Tab) (hl : l.length < 2 ^ 60) {h : Heap} {x : AV} (hx : snap h true 2 x = some (SL l)) : CSem Tryd.prog 37 [x] h fun x' h' => x' = .bool (decide (EvenP l)) ∧ h' = h := (one_pure l hl).call (k := 2) (by simp [hx])

def EqInv (a b : Tab) (i : Nat) (r : Regs) (_ : Heap) : Prop := i ≤ a.length ∧ rg r 0 = SL a ∧ rg r 1 = SL b ∧ rg r 12 = .int .i64 a.length ∧ rg r 13 = .int .i64 i ∧ ∀ j, j < i → a[j]? = b[j]?
end Go.Proofs.YtgcfmodgabeocaaDoor.X
