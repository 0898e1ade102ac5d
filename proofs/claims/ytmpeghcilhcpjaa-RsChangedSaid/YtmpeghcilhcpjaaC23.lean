/-
  Contracts: sheetpileref03.Det, Invert.
-/
import Derived.Test.YtmpeghcilhcpjaaC22
namespace Go.Proofs.Ytmpeghcilhcpjaa.X
open Go.RowKit F
set_option maxRecDepth 100000
set_option linter.unusedSimpArgs false
set_option linter.unusedVariables false

@[simp] theorem binX_B8_zero_ne {P : Program} {t : TypeId} {x : UInt8} : binX P .neq t (B8 x) (.int .u8 0) = some (.bool (!decide (x = 0))) := by
  have hx : ((x.toNat : Int) = 0) ↔ x = 0 := by
    constructor
    · intro h
      exact UInt8.toNat_inj.1 (by simpa using h)
    · rintro rfl; rfl
  simp only [B8]
  rw [binX_int (by decide) (by decide), intX_neq]
  by_cases h : x = 0
  · simp [h]
  · have h1 : ¬ ((x.toNat : Int) = 0) := fun e => h (hx.1 e)
    have : ¬ x.toNat = 0 := by omega
    simp [h, this]
theorem minorL_len {a : Tab} {q c : Nat} (hq : q < a.length) : (minorL a q c).length = a.length - 1 := by simp [minorL, List.length_eraseIdx, hq]
theorem minorL_row {a : Tab} {q c n m : Nat} (hr : ∀ x ∈ a, n + 1 ≤ x.length ∧ x.length < m) : ∀ x ∈ minorL a q c, n ≤ x.length ∧ x.length < m := by
  intro x hx
  obtain ⟨y, hy, rfl⟩ := List.mem_map.1 hx
  have := hr y (List.mem_of_mem_eraseIdx hy)
  rw [List.length_eraseIdx]
  split <;> omega
def DeInv (a : Tab) (n : Nat) (i : Nat) (r : Regs) (_ : Heap) : Prop :=
  i ≤ a.length ∧ rg r 0 = SL a ∧ rg r 3 = B8 (sm i fun i => gm (ent a i 0) (detF n (minorL a i 0))) ∧ rg r 4 = .int .i64 i
theorem det_pure' : ∀ (n : Nat) (a : Tab), a.length = n → n < 2 ^ 39 → (∀ x ∈ a, n ≤ x.length ∧ x.length < 2 ^ 40) → CPure Try.prog 33 [SL a] (B8 (detF n a)) := by
  intro n
  induction n with
  | zero =>
    intro a hl _ _
    refine CPure.of_sem (k := 1) ?_
    refine CSem.body hm Try.func33 rfl (by kernel_rfl) (by kernel_rfl) (by simp [Try.ntmps33]) ?_
    simp [Try.f33, hl, detF]
    rfl
  | succ n ih =>
    intro a hl hn hr
    refine CPure.of_sem (k := 1) ?_
    refine CSem.body hm Try.func33 rfl (by kernel_rfl) (by kernel_rfl) (by simp [Try.ntmps33]) ?_
    have hne : a ≠ [] := by intro e; rw [e] at hl; simp at hl
    simp [Try.f33, hne]
    refine wpc_loop (DeInv a n) (a.length - ·) ?_ 0 ?_
    · rintro i r h ⟨hi, g0, g3, g4⟩
      rcases Nat.lt_or_eq_of_le hi with hlt | heq
      · have hx : a[i]? = some a[i] := List.getElem?_eq_getElem hlt
        have hrow := hr _ (List.getElem_mem hlt)
        have hx0 : a[i][0]? = some (ent a i 0) := by
          rw [ent, rowN, hx]
          simp [List.getElem?_eq_getElem (show 0 < a[i].length by omega)]
        have hw : IntKind.i64.wrap ((i : Int) + 1) = (i : Int) + 1 := wrap64 (by omega) (by omega)
        by_cases hz : ent a i 0 = 0
        · simp [g0, g3, g4, hlt, hx, hx0, hz]
          refine ⟨i + 1, by omega, by omega, by simp [g0], ?_, by simp [hw]⟩
          simp [g3, sm, hz]
        · simp [g0, g3, g4, hlt, hx, hx0, hz]
          refine wpc_tk 8 5 (by kernel_rfl) ?_
          simp [g0, g3, g4, hlt, hx, hx0, hz]
          refine ((minor_pure a i 0 (by omega) (fun x hx => by have := hr x hx; omega)).call (k := 2) (by simp)).use ?_
          simp
          refine ((ih (minorL a i 0) (by rw [minorL_len hlt]; omega) (by omega) (minorL_row hr)).call (k := 2) (by simp)).use ?_
          simp
          refine (rmul_call _ _ _).use ?_
          simp [g0, g3, g4, hw]
          refine ⟨i + 1, by omega, by omega, by simp [g0], ?_, by simp [g4, hw]⟩
          simp [sm]
      · subst heq
        simp [g0, g3, g4, detF, hne]
    · exact ⟨Nat.zero_le _, by simp, by simp [sm, B8], by simp⟩
theorem det_call (a : Tab) (hl : a.length < 2 ^ 39) (hr : ∀ x ∈ a, a.length ≤ x.length ∧ x.length < 2 ^ 40) (h : Heap) : CSem Try.prog 33 [SL a] h fun x' h' => x' = B8 (detL a) ∧ h' = h :=
  (det_pure' a.length a rfl hl hr).call (k := 2) (by simp)

/-- A row of the minors' table. -/
def adRow (a : Tab) (i : Nat) : List UInt8 := (List.range a.length).map fun j => gm (gi (detL a)) (detL (minorL a j i))
def AiInv (a : Tab) (i : Nat) (r : Regs) (h : Heap) : Prop :=
  i ≤ a.length ∧ rg r 0 = SL a ∧ rg r 4 = B8 (gi (detL a)) ∧ rg r 7 = .int .i64 i ∧ Own h (rg r 6) (((List.range i).map (adRow a)).map S)
def AjInv (a : Tab) (i : Nat) (x6 : AV) (h0 : Heap) (j : Nat) (r : Regs) (h : Heap) : Prop :=
  j ≤ a.length ∧ rg r 0 = SL a ∧ rg r 4 = B8 (gi (detL a)) ∧ rg r 7 = .int .i64 i ∧ rg r 6 = x6 ∧ rg r 9 = .int .i64 j ∧ Old h0 h ∧ Own h (rg r 8) (((adRow a i).take j).map B8) ∧ ∀ q off n c z, rg r 8 = .sl q off n c z → h0.next ≤ q
theorem invR_adj {a : Tab} (hS : SqP a) : invR a = if detL a = 0 then ([], 2) else ((List.range a.length).map (adRow a), 0) := by
  have hsq := sq_of hS
  have hd := detL_det hsq
  rw [invR, if_pos hS]
  rcases gj_adj hsq with ⟨h0, hn⟩ | ⟨h0, s, hs, hq, he⟩
  · rw [hn, if_pos (by rw [hd]; exact h0)]
  · rw [hs, if_neg (by rw [hd]; exact h0)]
    have : s.2 = (List.range a.length).map (adRow a) := by
      refine tab_ext hq ⟨by simp, fun i hi => by simp [rowN, List.getElem?_range hi, adRow]⟩ fun i j hi hj => ?_
      rw [he i j hi hj]
      simp only [ent, rowN, List.getElem?_map, List.getElem?_range hi, Option.map_some, Option.getD_some, adRow, List.getElem?_range hj]
      rw [detL_adj hsq hi hj, hd]
    show (s.2, (0 : Int)) = _
    rw [this]
theorem rinvert_fresh (a : Tab) : FreshL Try.prog 41 [SL a] (invR a).1 (invR a).2 := by
  refine CSem.body hm Try.func41 rfl (by kernel_rfl) (by kernel_rfl) (by simp [Try.ntmps41]) ?_
  simp [Try.f41]
  refine (rmay_call a _).use ?_
  by_cases h1 : MayP a
  rotate_left
  · have : ¬ SqP a := fun h => h1 h.1
    simp [h1, invR, this, FrQ.nil]
  have hp : 0 < a.length := h1.1
  have h0 : a[0]? = some a[0] := List.getElem?_eq_getElem hp
  have hr0 : row0 a = a[0] := by simp [row0, h0]
  by_cases h2 : a.length = a[0].length
  rotate_left
  · have : ¬ SqP a := fun h => h2 (by rw [← hr0]; exact h.2)
    simp [h1, hp, h2, invR, this, FrQ.nil]
  have hS : SqP a := ⟨h1, by rw [hr0]; exact h2⟩
  have hn := h1.2.1
  have hrow : ∀ x ∈ a, x.length = a.length := fun x hx => by rw [h1.2.2.2.2 x hx, ← hS.2]
  simp [h1, hp, ← h2]
  refine (det_call a (by omega) (fun x hx => by have := hrow x hx; omega) _).use ?_
  simp
  refine (rinv_call _ _).use ?_
  rw [invR_adj hS]
  by_cases hd : detL a = 0
  · simp [invE, hd, FrQ.nil]
  simp [invE, hd]
  refine wpc_loop (AiInv a) (a.length - ·) ?_ 0 ?_
  · rintro i r h ⟨hi, g0, g4, g7, ho⟩
    rcases Nat.lt_or_eq_of_le hi with hlt | heq
    · simp [g0, g4, g7, hlt]
      refine wpc_loop (AjInv a i (rg r 6) h) (a.length - ·) ?_ 0 ?_
      · rintro j r2 h1 ⟨hj, g0, g4, g7, g6, g9, old, ho8, hq⟩
        rcases Nat.lt_or_eq_of_le hj with hjt | heq
        · have hz : (adRow a i)[j]? = some (gm (gi (detL a)) (detL (minorL a j i))) := by simp [adRow, hjt]
          simp [g0, g4, g7, g9, hjt]
          refine ((minor_pure a j i (by omega) (fun x hx => by have := hrow x hx; omega)).call (k := 2) (by simp)).use ?_
          simp
          have hml := minorL_len (c := i) hjt
          refine (det_call (minorL a j i) (by omega) (fun x hx => by
            have := minorL_row (n := a.length - 1) (m := 2 ^ 40) (fun x hx => by have := hrow x hx; omega) x hx
            omega) _).use ?_
          simp [g0, g4, g7, g9]
          refine (rmul_call _ _ _).use ?_
          obtain ⟨x', h2', e, ho', hnx, hat, hk2⟩ := append_own (P := Try.prog) (t := 64) (xt := 64) (by kernel_rfl) ho8 (by simp [adRow]; omega) (B8_atom (gm (gi (detL a)) (detL (minorL a j i))))
          simp [g0, g4, g7, g9, g6, buildSlice_one (P := Try.prog) (t := 64) (xt := 64) (by kernel_rfl), e]
          refine ⟨j + 1, by omega, by omega, by simp [g0], by simp [g4], by simp [g7], by simp [g6], by simp [wrap64 (n := (j : Int) + 1) (by omega) (by omega)], ⟨Nat.le_trans old.1 hnx, fun b cs hb => ?_⟩, ?_, ?_⟩
          · refine hk2 b cs (old.2 b cs hb) fun off n c z e9 => ?_
            have := hq _ _ _ _ _ e9
            have := Heap.get_lt hb
            omega
          · rw [take_map_succ _ hz]
            simpa using ho'
          · intro q off n c z e9
            simp at e9
            have := hat.2 _ _ _ _ _ e9
            have := old.1
            omega
        · have hpl : (adRow a i).length = a.length := by simp [adRow]
          rw [heq, show (adRow a i).take a.length = adRow a i from by rw [List.take_of_length_le (by omega)]] at ho8
          have ho6 : Own h1 (rg r2 6) (((List.range i).map (adRow a)).map S) := by rw [g6]; exact ho.old old.2
          rcases ho8 with ⟨q1, q2⟩ | ⟨p, q1, q2⟩
          · exfalso
            have h5 := congrArg List.length q2
            rw [List.length_map, hpl, List.length_nil] at h5
            omega
          · obtain ⟨x', h2', e, ho', hnx, hat, hk2⟩ := append_own (P := Try.prog) (t := 24) (xt := 24) (by kernel_rfl) ho6 (by simp; omega) (S_atom (adRow a i))
            simp at q1
            rw [g6] at e
            simp [g0, g4, g7, g9, g6, q1, q2, hpl, heq, buildSlice_one (P := Try.prog) (t := 24) (xt := 24) (by kernel_rfl), e]
            refine ⟨i + 1, by omega, by omega, by simp [g0], by simp [g4], by simp [wrap64 (n := (i : Int) + 1) (by omega) (by omega)], ?_⟩
            rw [List.range_succ]
            simpa using ho'
      · exact ⟨Nat.zero_le _, by simp [g0], by simp [g4], by simp [g7], by simp, by simp, ⟨Nat.le_refl _, fun _ _ h => h⟩, .inl ⟨by simp, by simp⟩, fun q off n c z e => by simp at e⟩
    · rw [heq] at ho
      simp [g0, g4, g7, heq]
      exact FrQ.own (by simpa using ho)
  · refine ⟨Nat.zero_le _, by simp, by simp, by simp, ?_⟩
    simp [Own]
theorem rinvert_call (a : Tab) (h : Heap) : CSem Try.prog 41 [SL a] h fun x' h' => x' = rL (invR a).1 (invR a).2 ∧ h' = h := (rinvert_fresh a).pure.call (k := 2) (by simp)
end Go.Proofs.Ytmpeghcilhcpjaa.X
