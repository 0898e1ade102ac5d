/-
  Contracts: rs.Repair, Delta; slices.Clone; sheetpileref05.Check, Agrees.
-/
import Derived.Test.YtgcfmodgabeocaaDoorC26
import Derived.Test.YtgcfmodgabeocaaDoorD05
namespace Go.Proofs.YtgcfmodgabeocaaDoor.X
open Go.RowKit F
set_option maxRecDepth 100000
set_option linter.unusedSimpArgs false
set_option linter.unusedVariables false

theorem decode_callS (k : Int) (l : Tab) (have_ : List Bool) (h : Sm l) (hk : (Lit.int .i64 k).wf = true) (hh : have_.length < 2 ^ 48) {hp : Heap} {x y : AV} (hx : snap hp true 2 x = some (SL l)) (hy : snap hp true 2 y = some (OL have_)) :
    CSem Tryd.prog 29 [.int .i64 k, x, y] hp fun x' h' => x' = rL (decD k l have_).1 (decD k l have_).2 ∧ h' = hp := (decode_fresh k l have_ h hk hh).pure.call (k := 2) (by simp [hx, hy])
def CkInv5 (k : Int) (l : Tab) (have_ : List Bool) (i : Nat) (r : Regs) (h : Heap) : Prop :=
  i ≤ l.length ∧ rg r 0 = .int .i64 k ∧ rg r 1 = SL l ∧ rg r 2 = OL have_ ∧ rg r 8 = .int .i64 i ∧ Own h (rg r 7) ((left (l.take i) (have_.take i)).map S)
theorem rcheck_pure (k : Int) (l : Tab) (have_ : List Bool) (h : Sm l) (hk : (Lit.int .i64 k).wf = true) (hh : have_.length < 2 ^ 48) : CPure Tryd.prog 33 [.int .i64 k, SL l, OL have_] (.int .i64 (decE k l have_)) := by
  refine CPure.of_sem (k := 1) ?_
  refine CSem.body hm Tryd.func33 rfl (by kernel_rfl) (by kernel_rfl) (by simp [Tryd.ntmps33]) ?_
  have bad : ¬ DkP k l have_ → decE k l have_ = 1 := fun h => by rw [decE, if_pos h]
  by_cases h1 : have_.length = l.length
  rotate_left
  · simp [Tryd.f33, h1, bad (fun h => h1 h.1)]
  by_cases h2 : k < 1
  · simp [Tryd.f33, h1, h2, bad (fun h => by have := h.2.1; omega)]
  by_cases h3 : (l.length : Int) < k
  · simp [Tryd.f33, h1, h2, h3, bad (fun h => by have := h.2.2.2.1; omega)]
  have hl1 := h.1
  have hkb := i64_of hk
  have hw : IntKind.i64.wrap ((l.length : Int) - k) = (l.length : Int) - k := wrap64 (by omega) (by omega)
  simp [Tryd.f33, h1, h2, h3, hw]
  refine (rgmay_call _ _ _).use ?_
  by_cases hM : GMay k (l.length - k)
  rotate_left
  · simp [hM, bad (fun h => hM h.2.2)]
  have hD : DkP k l have_ := ⟨h1, by omega, hM⟩
  simp [hM]
  refine wpc_loop (CkInv5 k l have_) (l.length - ·) ?_ 0 ?_
  · rintro i r hp ⟨hi, g0, g1, g2, g8, ho7⟩
    rcases Nat.lt_or_eq_of_le hi with hlt | heq
    · have hx : l[i]? = some l[i] := List.getElem?_eq_getElem hlt
      have hlh : i < have_.length := by omega
      have hy : have_[i]? = some have_[i] := List.getElem?_eq_getElem hlh
      have htl : (l.take i).length = (have_.take i).length := by simp [h1]
      have e1 : left (l.take (i + 1)) (have_.take (i + 1)) = left (l.take i) (have_.take i) ++ (if have_[i] = true then [l[i]] else []) := by
        rw [List.take_succ_eq_append_getElem hlt, List.take_succ_eq_append_getElem hlh, left_snoc htl]
      cases hb : have_[i] with
      | false =>
        simp [g0, g1, g2, g8, hlt, hx, hlh, hy, hb]
        refine ⟨i + 1, by omega, by omega, by simp [g0], by simp [g1], by simp [g2], by simp [wrap64 (n := (i : Int) + 1) (by omega) (by omega)], ?_⟩
        rw [e1, hb]; simpa using ho7
      | true =>
        have hlen : ((left (l.take i) (have_.take i)).map S).length < 2 ^ 40 := by
          rw [List.length_map]; exact (left_sm (h.take i)).1
        obtain ⟨x', h', e, ho', hnx, hat, hk2⟩ := append_own (P := Tryd.prog) (t := 26) (xt := 26) (by kernel_rfl) ho7 hlen (S_atom l[i])
        simp [g0, g1, g2, g8, hlt, hx, hlh, hy, hb, buildSlice_one (P := Tryd.prog) (t := 26) (xt := 26) (by kernel_rfl), e]
        refine ⟨i + 1, by omega, by omega, by simp [g0], by simp [g1], by simp [g2], by simp [wrap64 (n := (i : Int) + 1) (by omega) (by omega)], ?_⟩
        rw [e1, hb]; simpa using ho'
    · have hth : have_.take l.length = have_ := by rw [← h1, List.take_length]
      rw [heq, List.take_length, hth] at ho7
      have hlsm := left_sm (have_ := have_) h
      simp [g0, g1, g2, g8, heq]
      refine (one_callS (left l have_) (by have := hlsm.1; omega) (ho7.snap (fun _ => rfl))).use ?_
      by_cases hE : EvenP (left l have_)
      rotate_left
      · have : decE k l have_ = 1 := by rw [decE, if_neg (fun h => h hD), if_pos hE]
        simp [hE, this]
      have hlen : lenX Tryd.prog 26 (rg r 7) = some (.int .i64 ((left l have_).length : Int)) := by
        rcases ho7 with ⟨p1, p2⟩ | ⟨b, p1, p2⟩
        · have : left l have_ = [] := by simpa using p2
          rw [p1, this]; rfl
        · rw [p1]; simp
      simp [hE, hlen, g0]
      by_cases hf : ((left l have_).length : Int) < k
      · have : decE k l have_ = 3 := by rw [decE, if_neg (fun h => h hD), if_neg (fun h => h hE), if_pos hf]
        simp [hf, this]
      have hz : decE k l have_ = 0 := by rw [decE, if_neg (fun h => h hD), if_neg (fun h => h hE), if_neg hf]
      simp [hf, hz]
  · exact ⟨Nat.zero_le _, by simp, by simp, by simp, by simp, .inl ⟨by simp, by simp [left]⟩⟩
theorem rcheck_call (k : Int) (l : Tab) (have_ : List Bool) (h : Sm l) (hk : (Lit.int .i64 k).wf = true) (hh : have_.length < 2 ^ 48) (hp : Heap) :
    CSem Tryd.prog 33 [.int .i64 k, SL l, OL have_] hp fun x' h' => x' = .int .i64 (decE k l have_) ∧ h' = hp := (rcheck_pure k l have_ h hk hh).call (k := 2) (by simp)

/-- How many there are. -/
def cnt (have_ : List Bool) : Nat := (have_.filter id).length
theorem cnt_snoc (l : List Bool) (b : Bool) : cnt (l ++ [b]) = cnt l + (if b = true then 1 else 0) := by
  unfold cnt
  rw [List.filter_append, List.length_append]
  cases b <;> simp
/-- Is a codeword of these data as the first shards that there are? -/
def AgrP (data l : Tab) (have_ : List Bool) : Prop := EncP data (l.length - data.length) ∧ ∀ i, i < l.length → cnt (have_.take i) < data.length → have_[i]? = some true → (encL data (l.length - data.length))[i]? = l[i]?
def AgInv (data l : Tab) (have_ : List Bool) (i : Nat) (r : Regs) (_ : Heap) : Prop :=
  i ≤ l.length ∧ rg r 0 = SL data ∧ rg r 1 = SL l ∧ rg r 2 = OL have_ ∧ rg r 7 = SL (encL data (l.length - data.length)) ∧ rg r 9 = .int .i64 (cnt (have_.take i)) ∧ rg r 10 = .int .i64 i ∧
  ∀ j, j < i → cnt (have_.take j) < data.length → have_[j]? = some true → (encL data (l.length - data.length))[j]? = l[j]?
theorem encL_len {data : Tab} {m : Nat} : (encL data m).length = data.length + m := by simp [encL, spreadL, genL_len]
theorem cnt_mono {l : List Bool} {i j : Nat} (h : i ≤ j) : cnt (l.take i) ≤ cnt (l.take j) := by
  have : l.take i = (l.take j).take i := by rw [List.take_take, Nat.min_eq_left h]
  rw [this]
  unfold cnt
  exact ((List.take_sublist i (l.take j)).filter id).length_le
theorem agrees_pure (data l : Tab) (have_ : List Bool) (hd : Sm data) (h : Sm l) (hh : have_.length = l.length) (hc : AgrP data l have_) (hdl : data.length ≤ l.length) : CPure Tryd.prog 17 [SL data, SL l, OL have_] (.bool true) := by
  refine CPure.of_sem (k := 1) ?_
  refine CSem.body hm Tryd.func17 rfl (by kernel_rfl) (by kernel_rfl) (by simp [Tryd.ntmps17]) ?_
  have hl1 := h.1
  have hd1 := hd.1
  have hw : IntKind.i64.wrap ((l.length : Int) - data.length) = (l.length : Int) - data.length := wrap64 (by omega) (by omega)
  simp [Tryd.f17, hw]
  refine (renc_callS data _ hd (by simp)).use ?_
  have he : encR data ((l.length : Int) - data.length) = (encL data (l.length - data.length), 0) := by
    rw [encR, if_pos hc.1, show ((l.length : Int) - data.length).toNat = l.length - data.length by omega]
  simp [rL, he]
  refine wpc_loop (AgInv data l have_) (l.length - ·) ?_ 0 ?_
  · rintro i r hp ⟨hi, g0, g1, g2, g7, g9, g10, ha⟩
    rcases Nat.lt_or_eq_of_le hi with hlt | heq
    · have hx : l[i]? = some l[i] := List.getElem?_eq_getElem hlt
      have hlh : i < have_.length := by omega
      have hy : have_[i]? = some have_[i] := List.getElem?_eq_getElem hlh
      have hel : i < (encL data (l.length - data.length)).length := by rw [encL_len]; omega
      have hz : (encL data (l.length - data.length))[i]? = some (encL data (l.length - data.length))[i] := List.getElem?_eq_getElem hel
      have hct : cnt (have_.take (i + 1)) = cnt (have_.take i) + (if have_[i] = true then 1 else 0) := by rw [List.take_succ_eq_append_getElem hlh, cnt_snoc]
      have hcl : cnt (have_.take i) ≤ i := by
        unfold cnt
        exact Nat.le_trans (List.length_filter_le _ _) (by simp; omega)
      by_cases hk : cnt (have_.take i) < data.length
      rotate_left
      · simp [g0, g1, g2, g7, g9, g10, hlt, hk]
      cases hb : have_[i] with
      | false =>
        simp [g0, g1, g2, g7, g9, g10, hlt, hk, hlh, hy, hb]
        refine ⟨i + 1, by omega, by omega, by simp [g0], by simp [g1], by simp [g2], by simp [g7], by simp [g9, hct, hb], by simp [wrap64 (n := (i : Int) + 1) (by omega) (by omega)], fun j hj hjc hjh => ?_⟩
        by_cases hji : j = i
        · subst hji; rw [hy, hb] at hjh; cases hjh
        · exact ha j (by omega) hjc hjh
      | true =>
        have hs := hc.2 i hlt hk (by rw [hy, hb])
        have hs' : (encL data (l.length - data.length))[i] = l[i] := by rw [hz, hx] at hs; exact Option.some.inj hs
        have hw1 : IntKind.i64.wrap ((cnt (have_.take i) : Int) + 1) = (cnt (have_.take i) : Int) + 1 := wrap64 (by omega) (by omega)
        simp [g0, g1, g2, g7, g9, g10, hlt, hk, hlh, hy, hb, hw1]
        refine wpc_tk 9 0 (by kernel_rfl) ?_
        simp [g0, g1, g2, g7, g9, g10, hlt, hx, hel, hz, hs']
        refine ⟨i + 1, by omega, by omega, by simp [g0], by simp [g1], by simp [g2], by simp [g7], by simp [hct, hb], by simp [g10, wrap64 (n := (i : Int) + 1) (by omega) (by omega)], fun j hj hjc hjh => ?_⟩
        by_cases hji : j = i
        · subst hji; rw [hz, hx, hs']
        · exact ha j (by omega) hjc hjh
    · simp [g0, g1, g2, g7, g9, g10, heq]
  · exact ⟨Nat.zero_le _, by simp, by simp, by simp, by simp, by simp [cnt], by simp, by intro j hj; omega⟩
theorem agrees_call (data l : Tab) (have_ : List Bool) (hd : Sm data) (h : Sm l) (hh : have_.length = l.length) (hc : AgrP data l have_) (hdl : data.length ≤ l.length) (hp : Heap) :
    CSem Tryd.prog 17 [SL data, SL l, OL have_] hp fun x' h' => x' = .bool true ∧ h' = hp := (agrees_pure data l have_ hd h hh hc hdl).call (k := 2) (by simp)

/-- What Repair tells. -/
def repR (k : Int) (l : Tab) (have_ : List Bool) (n : Int) : List UInt8 × Int :=
  if (decD k l have_).2 ≠ 0 then ([], (decD k l have_).2) else if n < 0 ∨ (l.length : Int) ≤ n then ([], 1)
  else ((gatherL (rowN (genL k.toNat (l.length - k).toNat) n.toNat) (decD k l have_).1).getD [], 0)
theorem spreadL_sm {rows data : Tab} (hr : Sm rows) (hd : Sm data) : Sm (spreadL rows data) := by
  refine ⟨by simp [spreadL]; exact hr.1, fun x hx => ?_⟩
  obtain ⟨row, _, rfl⟩ := List.mem_map.1 hx
  unfold gatherL
  split
  · rename_i h
    obtain ⟨h1, h2, h3⟩ := h
    have hp : 0 < data.length := List.length_pos_iff.2 h2
    have h0 : data[0]? = some data[0] := List.getElem?_eq_getElem hp
    simp only [Option.getD_some]
    rw [sumL_length]
    · rw [h0]; exact hd.2 _ (List.getElem_mem hp)
    · intro y hy
      obtain ⟨j, hj, rfl⟩ := List.getElem_of_mem hy
      have hjl : j < data.length := by simp [scaled] at hj; omega
      have := h3 data[j] (List.getElem_mem _)
      rw [← this]
      simp [scaled, List.getElem_zipWith, scaleL]
  · simp
theorem decD_cases (k : Int) (l : Tab) (have_ : List Bool) : ((decD k l have_).2 = 0 ∧ DkP k l have_) ∨ ((decD k l have_).2 ≠ 0 ∧ (decD k l have_).1 = []) := by
  unfold decD
  by_cases hz : decE k l have_ = 0
  · have hD : DkP k l have_ := by
      by_cases hD : DkP k l have_
      · exact hD
      · rw [decE, if_pos hD] at hz; cases hz
    rw [if_pos hz]
    by_cases hr : (decR k (l.length - k) (nums have_)).2 = 0
    · rw [if_pos hr]; exact .inl ⟨rfl, hD⟩
    · rw [if_neg hr]; exact .inr ⟨hr, rfl⟩
  · rw [if_neg hz]; exact .inr ⟨hz, rfl⟩
theorem decD_sm {k : Int} {l : Tab} {have_ : List Bool} (h : Sm l) : Sm (decD k l have_).1 := by
  unfold decD
  split
  · split
    · exact spreadL_sm decR_sm ((left_sm h).take _)
    · exact ⟨by simp, by simp⟩
  · exact ⟨by simp, by simp⟩
end Go.Proofs.YtgcfmodgabeocaaDoor.X
