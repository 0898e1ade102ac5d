/-
  Contracts: rs.Repair, Delta; slices.Clone; sheetpileref05.Check, Agrees.
-/
import Derived.Test.YtmpeghcilhcpjaaC26
import Derived.Test.YtmpeghcilhcpjaaD05
namespace Go.Proofs.Ytmpeghcilhcpjaa.X
open Go.RowKit F
set_option maxRecDepth 100000
set_option linter.unusedSimpArgs false
set_option linter.unusedVariables false

theorem decode_callS (k : Int) (l : Tab) (have_ : List Bool) (h : Sm l) (hk : (Lit.int .i64 k).wf = true) (hh : have_.length < 2 ^ 48) {hp : Heap} {x y : AV} (hx : snap hp true 2 x = some (SL l)) (hy : snap hp true 2 y = some (OL have_)) :
    CSem Try.prog 49 [.int .i64 k, x, y] hp fun x' h' => x' = rL (decD k l have_).1 (decD k l have_).2 ∧ h' = hp := (decode_fresh k l have_ h hk hh).pure.call (k := 2) (by simp [hx, hy])
def CkInv5 (k : Int) (l : Tab) (have_ : List Bool) (i : Nat) (r : Regs) (h : Heap) : Prop :=
  i ≤ l.length ∧ rg r 0 = .int .i64 k ∧ rg r 1 = SL l ∧ rg r 2 = OL have_ ∧ rg r 8 = .int .i64 i ∧ Own h (rg r 7) ((left (l.take i) (have_.take i)).map S)
theorem rcheck_pure (k : Int) (l : Tab) (have_ : List Bool) (h : Sm l) (hk : (Lit.int .i64 k).wf = true) (hh : have_.length < 2 ^ 48) : CPure Try.prog 50 [.int .i64 k, SL l, OL have_] (.int .i64 (decE k l have_)) := by
  refine CPure.of_sem (k := 1) ?_
  refine CSem.body hm Try.func50 rfl (by kernel_rfl) (by kernel_rfl) (by simp [Try.ntmps50]) ?_
  have bad : ¬ DkP k l have_ → decE k l have_ = 1 := fun h => by rw [decE, if_pos h]
  by_cases h1 : have_.length = l.length
  rotate_left
  · simp [Try.f50, h1, bad (fun h => h1 h.1)]
  by_cases h2 : k < 1
  · simp [Try.f50, h1, h2, bad (fun h => by have := h.2.1; omega)]
  by_cases h3 : (l.length : Int) < k
  · simp [Try.f50, h1, h2, h3, bad (fun h => by have := h.2.2.2.1; omega)]
  have hl1 := h.1
  have hkb := i64_of hk
  have hw : IntKind.i64.wrap ((l.length : Int) - k) = (l.length : Int) - k := wrap64 (by omega) (by omega)
  simp [Try.f50, h1, h2, h3, hw]
  refine (rgmay_call _ _ _).use ?_
  by_cases hM : GMay k (l.length - k)
  rotate_left
  · simp [hM, bad (fun h => hM h.2.2)]
  have hD : DkP k l have_ := ⟨h1, by omega, hM⟩
  simp [hM]
  refine wpc_loop (CkInv5 k l have_) (l.length - ·) ?_ 0 ?_
  · rintro i r hp ⟨hi, g0, g1, g2, g8, ho7⟩
    rcases Nat.lt_or_eq_of_le hi with hlt | heq
    · have hx : l[i]? = some l[i] := List.getElem?_eq_getElem hlt
      have hlh : i < have_.length := by omega
      have hy : have_[i]? = some have_[i] := List.getElem?_eq_getElem hlh
      have htl : (l.take i).length = (have_.take i).length := by simp [h1]
      have e1 : left (l.take (i + 1)) (have_.take (i + 1)) = left (l.take i) (have_.take i) ++ (if have_[i] = true then [l[i]] else []) := by
        rw [List.take_succ_eq_append_getElem hlt, List.take_succ_eq_append_getElem hlh, left_snoc htl]
      cases hb : have_[i] with
      | false =>
        simp [g0, g1, g2, g8, hlt, hx, hlh, hy, hb]
        refine ⟨i + 1, by omega, by omega, by simp [g0], by simp [g1], by simp [g2], by simp [wrap64 (n := (i : Int) + 1) (by omega) (by omega)], ?_⟩
        rw [e1, hb]; simpa using ho7
      | true =>
        have hlen : ((left (l.take i) (have_.take i)).map S).length < 2 ^ 40 := by
          rw [List.length_map]; exact (left_sm (h.take i)).1
        obtain ⟨x', h', e, ho', hnx, hat, hk2⟩ := append_own (P := Try.prog) (t := 24) (xt := 24) (by kernel_rfl) ho7 hlen (S_atom l[i])
        simp [g0, g1, g2, g8, hlt, hx, hlh, hy, hb, buildSlice_one (P := Try.prog) (t := 24) (xt := 24) (by kernel_rfl), e]
        refine ⟨i + 1, by omega, by omega, by simp [g0], by simp [g1], by simp [g2], by simp [wrap64 (n := (i : Int) + 1) (by omega) (by omega)], ?_⟩
        rw [e1, hb]; simpa using ho'
    · have hth : have_.take l.length = have_ := by rw [← h1, List.take_length]
      rw [heq, List.take_length, hth] at ho7
      have hlsm := left_sm (have_ := have_) h
      simp [g0, g1, g2, g8, heq]
      refine (one_callS (left l have_) (by have := hlsm.1; omega) (ho7.snap (fun _ => rfl))).use ?_
      by_cases hE : EvenP (left l have_)
      rotate_left
      · have : decE k l have_ = 1 := by rw [decE, if_neg (fun h => h hD), if_pos hE]
        simp [hE, this]
      have hlen : lenX Try.prog 24 (rg r 7) = some (.int .i64 ((left l have_).length : Int)) := by
        rcases ho7 with ⟨p1, p2⟩ | ⟨b, p1, p2⟩
        · have : left l have_ = [] := by simpa using p2
          rw [p1, this]; rfl
        · rw [p1]; simp
      simp [hE, hlen, g0]
      by_cases hf : ((left l have_).length : Int) < k
      · have : decE k l have_ = 3 := by rw [decE, if_neg (fun h => h hD), if_neg (fun h => h hE), if_pos hf]
        simp [hf, this]
      have hz : decE k l have_ = 0 := by rw [decE, if_neg (fun h => h hD), if_neg (fun h => h hE), if_neg hf]
      simp [hf, hz]
  · exact ⟨Nat.zero_le _, by simp, by simp, by simp, by simp, .inl ⟨by simp, by simp [left]⟩⟩
theorem rcheck_call (k : Int) (l : Tab) (have_ : List Bool) (h : Sm l) (hk : (Lit.int .i64 k).wf = true) (hh : have_.length < 2 ^ 48) (hp : Heap) :
    CSem Try.prog 50 [.int .i64 k, SL l, OL have_] hp fun x' h' => x' = .int .i64 (decE k l have_) ∧ h' = hp := (rcheck_pure k l have_ h hk hh).call (k := 2) (by simp)

/-- How many there are. -/
def cnt (have_ : List Bool) : Nat := (have_.filter id).length
theorem cnt_snoc (l : List Bool) (b : Bool) : cnt (l ++ [b]) = cnt l + (if b = true then 1 else 0) := by
  unfold cnt
  rw [List.filter_append, List.length_append]
  cases b <;> simp
/-- Is a codeword of these data as the first shards that there are? -/
def AgrP (data l : Tab) (have_ : List Bool) : Prop := EncP data (l.length - data.length) ∧ ∀ i, i < l.length → cnt (have_.take i) < data.length → have_[i]? = some true → (encL data (l.length - data.length))[i]? = l[i]?
def AgInv (data l : Tab) (have_ : List Bool) (i : Nat) (r : Regs) (_ : Heap) : Prop :=
  i ≤ l.length ∧ rg r 0 = SL data ∧ rg r 1 = SL l ∧ rg r 2 = OL have_ ∧ rg r 7 = SL (encL data (l.length - data.length)) ∧ rg r 9 = .int .i64 (cnt (have_.take i)) ∧ rg r 10 = .int .i64 i ∧
  ∀ j, j < i → cnt (have_.take j) < data.length → have_[j]? = some true → (encL data (l.length - data.length))[j]? = l[j]?
theorem encL_len {data : Tab} {m : Nat} : (encL data m).length = data.length + m := by simp [encL, spreadL, genL_len]
theorem cnt_mono {l : List Bool} {i j : Nat} (h : i ≤ j) : cnt (l.take i) ≤ cnt (l.take j) := by
  have : l.take i = (l.take j).take i := by rw [List.take_take, Nat.min_eq_left h]
  rw [this]
  unfold cnt
  exact ((List.take_sublist i (l.take j)).filter id).length_le
theorem agrees_pure (data l : Tab) (have_ : List Bool) (hd : Sm data) (h : Sm l) (hh : have_.length = l.length) (hc : AgrP data l have_) (hdl : data.length ≤ l.length) : CPure Try.prog 51 [SL data, SL l, OL have_] (.bool true) := by
  refine CPure.of_sem (k := 1) ?_
  refine CSem.body hm Try.func51 rfl (by kernel_rfl) (by kernel_rfl) (by simp [Try.ntmps51]) ?_
  have hl1 := h.1
  have hd1 := hd.1
  have hw : IntKind.i64.wrap ((l.length : Int) - data.length) = (l.length : Int) - data.length := wrap64 (by omega) (by omega)
  simp [Try.f51, hw]
  refine (renc_callS data _ hd (by simp)).use ?_
  have he : encR data ((l.length : Int) - data.length) = (encL data (l.length - data.length), 0) := by
    rw [encR, if_pos hc.1, show ((l.length : Int) - data.length).toNat = l.length - data.length by omega]
  simp [rL, he]
  refine wpc_loop (AgInv data l have_) (l.length - ·) ?_ 0 ?_
  · rintro i r hp ⟨hi, g0, g1, g2, g7, g9, g10, ha⟩
    rcases Nat.lt_or_eq_of_le hi with hlt | heq
    · have hx : l[i]? = some l[i] := List.getElem?_eq_getElem hlt
      have hlh : i < have_.length := by omega
      have hy : have_[i]? = some have_[i] := List.getElem?_eq_getElem hlh
      have hel : i < (encL data (l.length - data.length)).length := by rw [encL_len]; omega
      have hz : (encL data (l.length - data.length))[i]? = some (encL data (l.length - data.length))[i] := List.getElem?_eq_getElem hel
      have hct : cnt (have_.take (i + 1)) = cnt (have_.take i) + (if have_[i] = true then 1 else 0) := by rw [List.take_succ_eq_append_getElem hlh, cnt_snoc]
      have hcl : cnt (have_.take i) ≤ i := by
        unfold cnt
        exact Nat.le_trans (List.length_filter_le _ _) (by simp; omega)
      by_cases hk : cnt (have_.take i) < data.length
      rotate_left
      · simp [g0, g1, g2, g7, g9, g10, hlt, hk]
      cases hb : have_[i] with
      | false =>
        simp [g0, g1, g2, g7, g9, g10, hlt, hk, hlh, hy, hb]
        refine ⟨i + 1, by omega, by omega, by simp [g0], by simp [g1], by simp [g2], by simp [g7], by simp [g9, hct, hb], by simp [wrap64 (n := (i : Int) + 1) (by omega) (by omega)], fun j hj hjc hjh => ?_⟩
        by_cases hji : j = i
        · subst hji; rw [hy, hb] at hjh; cases hjh
        · exact ha j (by omega) hjc hjh
      | true =>
        have hs := hc.2 i hlt hk (by rw [hy, hb])
        have hs' : (encL data (l.length - data.length))[i] = l[i] := by rw [hz, hx] at hs; exact Option.some.inj hs
        have hw1 : IntKind.i64.wrap ((cnt (have_.take i) : Int) + 1) = (cnt (have_.take i) : Int) + 1 := wrap64 (by omega) (by omega)
        simp [g0, g1, g2, g7, g9, g10, hlt, hk, hlh, hy, hb, hw1]
        refine wpc_tk 9 0 (by kernel_rfl) ?_
        simp [g0, g1, g2, g7, g9, g10, hlt, hx, hel, hz, hs']
        refine ⟨i + 1, by omega, by omega, by simp [g0], by simp [g1], by simp [g2], by simp [g7], by simp [hct, hb], by simp [g10, wrap64 (n := (i : Int) + 1) (by omega) (by omega)], fun j hj hjc hjh => ?_⟩
        by_cases hji : j = i
        · subst hji; rw [hz, hx, hs']
        · exact ha j (by omega) hjc hjh
    · simp [g0, g1, g2, g7, g9, g10, heq]
  · exact ⟨Nat.zero_le _, by simp, by simp, by simp, by simp, by simp [cnt], by simp, by intro j hj; omega⟩
theorem agrees_call (data l : Tab) (have_ : List Bool) (hd : Sm data) (h : Sm l) (hh : have_.length = l.length) (hc : AgrP data l have_) (hdl : data.length ≤ l.length) (hp : Heap) :
    CSem Try.prog 51 [SL data, SL l, OL have_] hp fun x' h' => x' = .bool true ∧ h' = hp := (agrees_pure data l have_ hd h hh hc hdl).call (k := 2) (by simp)

/-- What Repair tells. -/
def repR (k : Int) (l : Tab) (have_ : List Bool) (n : Int) : List UInt8 × Int :=
  if (decD k l have_).2 ≠ 0 then ([], (decD k l have_).2) else if n < 0 ∨ (l.length : Int) ≤ n then ([], 1)
  else ((gatherL (rowN (genL k.toNat (l.length - k).toNat) n.toNat) (decD k l have_).1).getD [], 0)
theorem spreadL_sm {rows data : Tab} (hr : Sm rows) (hd : Sm data) : Sm (spreadL rows data) := by
  refine ⟨by simp [spreadL]; exact hr.1, fun x hx => ?_⟩
  obtain ⟨row, _, rfl⟩ := List.mem_map.1 hx
  unfold gatherL
  split
  · rename_i h
    obtain ⟨h1, h2, h3⟩ := h
    have hp : 0 < data.length := List.length_pos_iff.2 h2
    have h0 : data[0]? = some data[0] := List.getElem?_eq_getElem hp
    simp only [Option.getD_some]
    rw [sumL_length]
    · rw [h0]; exact hd.2 _ (List.getElem_mem hp)
    · intro y hy
      obtain ⟨j, hj, rfl⟩ := List.getElem_of_mem hy
      have hjl : j < data.length := by simp [scaled] at hj; omega
      have := h3 data[j] (List.getElem_mem _)
      rw [← this]
      simp [scaled, List.getElem_zipWith, scaleL]
  · simp
theorem decD_cases (k : Int) (l : Tab) (have_ : List Bool) : ((decD k l have_).2 = 0 ∧ DkP k l have_) ∨ ((decD k l have_).2 ≠ 0 ∧ (decD k l have_).1 = []) := by
  unfold decD
  by_cases hz : decE k l have_ = 0
  · have hD : DkP k l have_ := by
      by_cases hD : DkP k l have_
      · exact hD
      · rw [decE, if_pos hD] at hz; cases hz
    rw [if_pos hz]
    by_cases hr : (decR k (l.length - k) (nums have_)).2 = 0
    · rw [if_pos hr]; exact .inl ⟨rfl, hD⟩
    · rw [if_neg hr]; exact .inr ⟨hr, rfl⟩
  · rw [if_neg hz]; exact .inr ⟨hz, rfl⟩
theorem decD_sm {k : Int} {l : Tab} {have_ : List Bool} (h : Sm l) : Sm (decD k l have_).1 := by
  unfold decD
  split
  · split
    · exact spreadL_sm decR_sm ((left_sm h).take _)
    · exact ⟨by simp, by simp⟩
  · exact ⟨by simp, by simp⟩
theorem repair_pure (k : Int) (l : Tab) (have_ : List Bool) (n : Int) (h : Sm l) (hk : (Lit.int .i64 k).wf = true) (hh : have_.length < 2 ^ 48) (hn : (Lit.int .i64 n).wf = true) :
    CPure Try.prog 52 [.int .i64 k, SL l, OL have_, .int .i64 n] (.tup [S (repR k l have_ n).1, .int .i64 (repR k l have_ n).2]) := by
  refine CPure.of_sem (k := 2) ?_
  refine CSem.body hm Try.func52 rfl (by kernel_rfl) (by kernel_rfl) (by simp [Try.ntmps52]) ?_
  simp [Try.f52]
  refine (decode_callS k l have_ h hk hh (by simp) (by simp)).use ?_
  rcases decD_cases k l have_ with ⟨he, hD⟩ | ⟨he, _⟩
  rotate_left
  · simp [rL, he, repR]
  obtain ⟨d1, d2, d3⟩ := hD
  have hl1 := h.1
  by_cases h1 : n < 0
  · simp [rL, he, h1, repR]
  by_cases h2 : (l.length : Int) ≤ n
  · simp [rL, he, h1, h2, repR]
  obtain ⟨m1, m2, m3, m4⟩ := d3
  have hM : GMay k (l.length - k) := ⟨m1, m2, m3, m4⟩
  obtain ⟨N, rfl⟩ := Int.eq_ofNat_of_zero_le (by omega : 0 ≤ n)
  have hw : IntKind.i64.wrap ((l.length : Int) - k) = (l.length : Int) - k := wrap64 (by omega) (by omega)
  have hw2 : IntKind.i64.wrap ((N : Int) + 1) = (N : Int) + 1 := wrap64 (by omega) (by omega)
  simp [rL, he, h1, h2, hw]
  refine (gen_call _ _ _).use ?_
  have hg : genR k ((l.length : Int) - k) = (genL k.toNat ((l.length : Int) - k).toNat, 0) := by rw [genR, if_pos hM]
  have hgl : (genL k.toNat ((l.length : Int) - k).toNat).length = l.length := by rw [genL_len]; omega
  have k1 : (N : Int) + 1 ≤ (l.length : Int) := by omega
  have k2 : ((N : Int) + 1).toNat = N + 1 := by omega
  have k3 : 0 ≤ (N : Int) + 1 := by omega
  have k4 : (N : Int) ≤ ((N + 1 : Nat) : Int) := by omega
  have hgs := gen_sm hM
  have hone : ((genL k.toNat ((l.length : Int) - k).toNat).take (N + 1)).drop N = [rowN (genL k.toNat ((l.length : Int) - k).toNat) N] := by
    have hN : N < (genL k.toNat ((l.length : Int) - k).toNat).length := by rw [hgl]; omega
    rw [List.take_succ_eq_append_getElem hN, List.drop_append_of_le_length (by rw [List.length_take]; omega), List.drop_of_length_le (by rw [List.length_take]; exact Nat.min_le_left _ _)]
    simp [rowN, List.getElem?_eq_getElem hN]
  simp [rL, hg, hgl, hw2, k1, k2, k3, k4]
  rw [show (List.drop N (List.take (N + 1) (genL k.toNat ((l.length : Int) - k).toNat))) = [rowN (genL k.toNat ((l.length : Int) - k).toNat) N] from hone]
  refine (spread_callS [rowN (genL k.toNat ((l.length : Int) - k).toNat) N] (decD k l have_).1 ⟨by simp, fun x hx => by
    simp at hx
    rw [hx, genL_row (by omega)]
    omega⟩ (decD_sm h) (by simp) (by simp)).use ?_
  simp [spreadL, repR, he, h1, h2]
theorem repair_callS (k : Int) (l : Tab) (have_ : List Bool) (n : Int) (h : Sm l) (hk : (Lit.int .i64 k).wf = true) (hh : have_.length < 2 ^ 48) (hn : (Lit.int .i64 n).wf = true) {hp : Heap} {x y : AV} (hx : snap hp true 2 x = some (SL l)) (hy : snap hp true 2 y = some (OL have_)) :
    CSem Try.prog 52 [.int .i64 k, x, y, .int .i64 n] hp fun x' h' => x' = .tup [S (repR k l have_ n).1, .int .i64 (repR k l have_ n).2] ∧ h' = hp := (repair_pure k l have_ n h hk hh hn).call (k := 2) (by simp [hx, hy])
end Go.Proofs.Ytmpeghcilhcpjaa.X
