/-
  The laws RsBack, RsSums.
-/
import Derived.Test.YtmpeghcilhcpjaaD07
namespace Go.Proofs.Ytmpeghcilhcpjaa.X
open Go.RowKit F
set_option maxRecDepth 100000
set_option linter.unusedSimpArgs false
set_option linter.unusedVariables false

theorem wf_of {n : Int} (h1 : -9223372036854775808 ≤ n) (h2 : n ≤ 9223372036854775807) : (Lit.int .i64 n).wf = true := by
  simp [Lit.wf, IntKind.min, IntKind.max, IntKind.signed, IntKind.bits, h1, h2]
def gone : List UInt8 := [103, 111, 110, 101]
def goneL (l : Tab) (have_ : List Bool) : Tab := List.zipWith (fun x b => if b = true then x else gone) l have_
theorem goneL_get {l : Tab} {have_ : List Bool} {i : Nat} {x : List UInt8} {b : Bool} (hx : l[i]? = some x) (hb : have_[i]? = some b) : (goneL l have_)[i]? = some (if b = true then x else gone) := by
  simp [goneL, List.getElem?_zipWith, hx, hb]
theorem goneL_len {l : Tab} {have_ : List Bool} (h : have_.length = l.length) : (goneL l have_).length = l.length := by simp [goneL, h]
theorem mem_left {l : Tab} {have_ : List Bool} {x : List UInt8} (hx : x ∈ left l have_) : ∃ i : Nat, have_[i]? = some true ∧ l[i]? = some x := by
  obtain ⟨p, hp, rfl⟩ := List.mem_map.1 hx
  obtain ⟨h1, h2⟩ := List.mem_filter.1 hp
  obtain ⟨i, hi⟩ := List.getElem?_of_mem h1
  rw [List.getElem?_zip_eq_some] at hi
  exact ⟨i, by rw [hi.2]; simpa using h2, hi.1⟩
theorem gone_at {l : Tab} {have_ : List Bool} {i : Nat} (hh : have_.length = l.length) (hb : have_[i]? = some true) : (goneL l have_)[i]? = l[i]? := by
  obtain ⟨h1, _⟩ := List.getElem?_eq_some_iff.1 hb
  have hx : l[i]? = some l[i] := List.getElem?_eq_getElem (by omega)
  rw [goneL_get hx hb, if_pos rfl, hx]
theorem gone_dec {data : Tab} {m : Nat} {have_ : List Bool} (hP : EncP data m) (hh : have_.length = (encL data m).length) :
    decD data.length (goneL (encL data m) have_) have_ = if cnt have_ < data.length then ([], 3) else (data, 0) := by
  have hdn := hP.1.ne
  have hlen := goneL_len hh
  have hel : (encL data m).length = data.length + m := encL_len
  have hD : DkP data.length (goneL (encL data m) have_) have_ := ⟨by rw [hh, hlen], hP.1.1, by rw [hlen, hel]; rw [show ((data.length + m : Nat) : Int) - (data.length : Int) = m by omega]; exact hP.1⟩
  have hE : EvenP (left (goneL (encL data m) have_) have_) := even_of (w := (row0 data).length) fun x hx => by
    obtain ⟨i, h1, h2⟩ := mem_left hx
    rw [gone_at hh h1] at h2
    exact encL_row hdn hP.2 x (List.mem_of_getElem? h2)
  have hc : (left (goneL (encL data m) have_) have_).length = cnt have_ := by rw [nums_len (by rw [hh, hlen]), nums, cnt_nums]
  by_cases hn : cnt have_ < data.length
  · have hz : decE data.length (goneL (encL data m) have_) have_ = 3 := by rw [decE, if_neg (fun h => h hD), if_neg (fun h => h hE), if_pos (by omega)]
    rw [if_pos hn, decD, hz]
    rfl
  · have hz : decE data.length (goneL (encL data m) have_) have_ = 0 := by rw [decE, if_neg (fun h => h hD), if_neg (fun h => h hE), if_neg (by omega)]
    obtain ⟨d, hd⟩ := decD_ok hz
    rw [if_neg hn, hd.ok, hd.codeword hP (by rw [hlen, hel]) (by rw [hh, hlen]) (fun i hb => gone_at hh hb)]
theorem gone_rep {data : Tab} {m : Nat} {have_ : List Bool} (hP : EncP data m) (hh : have_.length = (encL data m).length) (hn : ¬ cnt have_ < data.length) {i : Nat} (hi : i < (encL data m).length) :
    repR data.length (goneL (encL data m) have_) have_ i = ((encL data m)[i], 0) := by
  have hlen := goneL_len hh
  have hel : (encL data m).length = data.length + m := encL_len
  have hd := gone_dec hP hh
  rw [if_neg hn] at hd
  have h2 : ¬ ((i : Int) < 0 ∨ ((goneL (encL data m) have_).length : Int) ≤ i) := by rw [hlen]; omega
  have hm : (((goneL (encL data m) have_).length : Int) - (data.length : Int)).toNat = m := by rw [hlen, hel]; omega
  rw [repR, hd, if_neg (by simp), if_neg h2, hm]
  simp only [Int.toNat_natCast]
  congr 1
  have : (encL data m)[i] = (gatherL (rowN (genL data.length m) i) data).getD [] := by
    have hg : i < (genL data.length m).length := by rw [genL_len]; omega
    simp [encL, spreadL, rowN, List.getElem?_eq_getElem hg]
  rw [this]
theorem gone_sm {l : Tab} {have_ : List Bool} (h : Sm l) : Sm (goneL l have_) := by
  refine ⟨by have := h.1; simp [goneL]; omega, fun x hx => ?_⟩
  obtain ⟨i, hi⟩ := List.getElem?_of_mem hx
  rw [goneL, List.getElem?_zipWith] at hi
  cases h1 : l[i]? with
  | none => rw [h1] at hi; simp at hi
  | some y =>
    cases h2 : have_[i]? with
    | none => rw [h1, h2] at hi; simp at hi
    | some b =>
      rw [h1, h2] at hi
      simp at hi
      rw [← hi]
      split
      · exact h.2 y (List.mem_of_getElem? h1)
      · simp [gone]
def BkInv (data l : Tab) (have_ : List Bool) (i : Nat) (r : Regs) (h : Heap) : Prop :=
  i ≤ l.length ∧ rg r 0 = SL data ∧ rg r 2 = OL have_ ∧ rg r 7 = SL l ∧ rg r 9 = .int .i64 data.length ∧ rg r 10 = .int .i64 (cnt (have_.take i)) ∧ rg r 12 = .int .i64 i ∧ Own h (rg r 11) (((goneL l have_).take i).map S)
def BlInv (data l : Tab) (have_ : List Bool) (x11 : AV) (h0 : Heap) (i : Nat) (r : Regs) (h : Heap) : Prop :=
  i ≤ l.length ∧ h = h0 ∧ rg r 0 = SL data ∧ rg r 2 = OL have_ ∧ rg r 7 = SL l ∧ rg r 9 = .int .i64 data.length ∧ rg r 11 = x11 ∧ rg r 14 = SL data ∧ rg r 15 = .int .i64 0 ∧ rg r 16 = .int .i64 i
theorem rsBack_pure (data : Tab) (m : Int) (have_ : List Bool) (hl : data.length < 2 ^ 48) (_ : ∀ x ∈ data, x.length < 2 ^ 63) (_ : (Lit.int .i64 m).wf = true) (hh : have_.length < 2 ^ 48) : CPure Try.prog 18 [SL data, .int .i64 m, OL have_] (.bool true) := by
  refine CPure.of_sem (k := 1) ?_
  refine CSem.body hm Try.func18 rfl (by kernel_rfl) (by kernel_rfl) (by simp [Try.ntmps18]) ?_
  simp [Try.f18]
  refine (small5_call data (by omega) _).use ?_
  by_cases h1 : SmallP data 14 60
  rotate_left
  · simp [h1]
    refine out05 _ _ ?_
    simp
  by_cases h2 : 6 < m
  · simp [h1, h2]
    refine out05 _ _ ?_
    simp
  have hs := sm_of h1
  simp [h1, h2]
  refine (enc_callS data m hs (by simp)).use ?_
  by_cases hP : EncP data m
  rotate_left
  · simp [rL, encR, hP]
    refine out05 _ _ ?_
    simp
  obtain ⟨M, rfl⟩ := Int.eq_ofNat_of_zero_le hP.1.2.1
  have hsl : Sm (encL data M) := by
    have hg := gen_sm hP.1
    rw [Int.toNat_natCast, Int.toNat_natCast] at hg
    exact spreadL_sm hg hs
  by_cases h3 : have_.length = (encL data M).length
  rotate_left
  · have h3' : ¬ ((have_.length : Int) = ((encL data M).length : Int)) := by omega
    simp [rL, encR, hP, h3]
    refine out05 _ _ ?_
    simp
  by_cases h4 : (16 : Int) < ((encL data M).length : Int)
  · simp [rL, encR, hP, h3, h4]
    refine out05 _ _ ?_
    simp
  simp [rL, encR, hP, h3, h4]
  refine wpc_loop (BkInv data (encL data M) have_) ((encL data M).length - ·) ?_ 0 ?_
  · rintro i r hp ⟨hi, g0, g2, g7, g9, g10, g12, ho⟩
    rcases Nat.lt_or_eq_of_le hi with hlt | heq
    · have hx : (encL data M)[i]? = some (encL data M)[i] := List.getElem?_eq_getElem hlt
      have hlh : i < have_.length := by omega
      have hy : have_[i]? = some have_[i] := List.getElem?_eq_getElem hlh
      have hz := goneL_get hx hy
      have hct : cnt (have_.take (i + 1)) = cnt (have_.take i) + (if have_[i] = true then 1 else 0) := by rw [List.take_succ_eq_append_getElem hlh, cnt_snoc]
      have hcl : cnt (have_.take i) ≤ i := by
        unfold cnt
        exact Nat.le_trans (List.length_filter_le _ _) (by simp; omega)
      have hw1 : IntKind.i64.wrap ((cnt (have_.take i) : Int) + 1) = (cnt (have_.take i) : Int) + 1 := wrap64 (by omega) (by omega)
      have hgl : (((goneL (encL data M) have_).take i).map S).length < 2 ^ 40 := by simp; omega
      cases hb : have_[i] with
      | false =>
        rw [hb, if_neg (by simp)] at hz
        obtain ⟨x', h', e, ho', hnx, hat, hk2⟩ := append_own (P := Try.prog) (t := 24) (xt := 24) (by kernel_rfl) ho hgl (S_atom gone)
        simp only [gone] at e
        simp [g0, g2, g7, g9, g10, g12, hlt, hlh, hy, hb, buildSlice_one (P := Try.prog) (t := 24) (xt := 24) (by kernel_rfl), e]
        refine ⟨i + 1, by omega, by omega, by simp [g0], by simp [g2], by simp [g7], by simp [g9], by simp [g10, hct, hb], by simp [wrap64 (n := (i : Int) + 1) (by omega) (by omega)], ?_⟩
        rw [take_map_succ _ hz]
        simpa using ho'
      | true =>
        rw [hb, if_pos rfl] at hz
        obtain ⟨x', h', e, ho', hnx, hat, hk2⟩ := append_own (P := Try.prog) (t := 24) (xt := 24) (by kernel_rfl) ho hgl (S_atom (encL data M)[i])
        simp [g0, g2, g7, g9, g10, g12, hlt, hlh, hy, hb, hw1, buildSlice_one (P := Try.prog) (t := 24) (xt := 24) (by kernel_rfl), e]
        refine ⟨i + 1, by omega, by omega, by simp [g0], by simp [g2], by simp [g7], by simp [g9], by simp [hct, hb], by simp [wrap64 (n := (i : Int) + 1) (by omega) (by omega)], ?_⟩
        rw [take_map_succ _ hz]
        simpa using ho'
    · have hgl := goneL_len h3
      have hth : have_.take i = have_ := by rw [heq, ← h3, List.take_length]
      rw [hth] at g10
      rw [heq, List.take_of_length_le (by omega)] at ho
      have hsn : ∀ k, snap hp true (k + 2) (rg r 11) = some (SL (goneL (encL data M) have_)) := fun k => ho.snap (fun _ => rfl)
      have hgs := gone_sm (have_ := have_) hsl
      have hdl := hP.1.2.2.1
      have hdec := gone_dec hP h3
      simp [g0, g2, g7, g9, g10, g12, heq]
      refine (decode_callS data.length (goneL (encL data M) have_) have_ hgs (wf_of (by omega) (by omega)) hh (hsn 0) (by simp)).use ?_
      by_cases hn : cnt have_ < data.length
      · rw [hdec, if_pos hn]
        simp [rL, g9, g10, hn]
        refine out05 _ _ ?_
        simp
      rw [hdec, if_neg hn]
      simp [rL, g9, g10, hn]
      refine wpc_loop (BlInv data (encL data M) have_ (rg r 11) hp) ((encL data M).length - ·) ?_ 0 ?_
      · rintro j r2 hp2 ⟨hj, rfl, g0, g2, g7, g9, g11, g14, g15, g16⟩
        rcases Nat.lt_or_eq_of_le hj with hlt | heq
        · have hx : (encL data M)[j]? = some (encL data M)[j] := List.getElem?_eq_getElem hlt
          have hrp := gone_rep hP h3 hn hlt
          simp [g0, g2, g7, g9, g11, g14, g15, g16, hlt]
          refine (repair_callS data.length (goneL (encL data M) have_) have_ j hgs (wf_of (by omega) (by omega)) hh (wf_of (by omega) (by omega)) (hsn 0) (by simp)).use ?_
          rw [hrp]
          simp [g0, g2, g7, g9, g11, g14, g15, g16, hlt]
          exact ⟨j + 1, by omega, by omega, rfl, by simp [g0], by simp [g2], by simp [g7], by simp [g9], by simp [g11], by simp [g14], by simp [g15], by simp [wrap64 (n := (j : Int) + 1) (by omega) (by omega)]⟩
        · simp [g0, g2, g7, g9, g11, g14, g15, g16, heq]
          refine (repair_callS data.length (goneL (encL data M) have_) have_ ((encL data M).length : Int) hgs (wf_of (by omega) (by omega)) hh (wf_of (by omega) (by omega)) (hsn 0) (by simp)).use ?_
          have hrp : repR data.length (goneL (encL data M) have_) have_ ((encL data M).length : Int) = ([], 1) := by
            rw [repR, hdec, if_neg hn, if_neg (by simp), if_pos (by rw [hgl]; omega)]
          rw [hrp]
          simp [g0, g2, g7, g9, g11, g14, g15, g16]
          refine (same_call data data (by omega) (by simp) (by simp)).use ?_
          simp [g0, g2, g7, g9, g11, g14, g15, g16]
          refine out05 _ _ ?_
          simp
      · exact ⟨Nat.zero_le _, rfl, by simp [g0], by simp [g2], by simp [g7], by simp [g9], by simp, by simp, by simp, by simp⟩
  · exact ⟨Nat.zero_le _, by simp, by simp, by simp, by simp, by simp [cnt], by simp, .inl ⟨by simp, by simp⟩⟩
end Go.Proofs.Ytmpeghcilhcpjaa.X
