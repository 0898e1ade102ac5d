/-
  StripeBack.
-/
import Derived.Test.YtgcfmodgabeocaaDoorE18
namespace Go.Proofs.YtgcfmodgabeocaaDoor.X
open Go.RowKit F
set_option maxRecDepth 100000
set_option linter.unusedSimpArgs false
set_option linter.unusedVariables false

theorem wf_of13 {n : Int} (h1 : -9223372036854775808 ≤ n) (h2 : n ≤ 9223372036854775807) : (Lit.int .i64 n).wf = true := by
  simp [Lit.wf, IntKind.min, IntKind.max, IntKind.signed, IntKind.bits, h1, h2]
def blankL (l : Tab) (have_ : List Bool) : Tab := List.zipWith (fun x b => if b = true then x else []) l have_
theorem blankL_get {l : Tab} {have_ : List Bool} {i : Nat} {x : List UInt8} {b : Bool} (hx : l[i]? = some x) (hb : have_[i]? = some b) : (blankL l have_)[i]? = some (if b = true then x else []) := by
  simp [blankL, List.getElem?_zipWith, hx, hb]
theorem blankL_len {l : Tab} {have_ : List Bool} (h : have_.length = l.length) : (blankL l have_).length = l.length := by simp [blankL, h]
theorem blank_at {l : Tab} {have_ : List Bool} {i : Nat} (hh : have_.length = l.length) (hb : have_[i]? = some true) : (blankL l have_)[i]? = l[i]? := by
  obtain ⟨h1, _⟩ := List.getElem?_eq_some_iff.1 hb
  have hx : l[i]? = some l[i] := List.getElem?_eq_getElem (by omega)
  rw [blankL_get hx hb, if_pos rfl, hx]
theorem blank_sm {l : Tab} {have_ : List Bool} (h : Sm l) : Sm (blankL l have_) := by
  refine ⟨by have := h.1; simp [blankL]; omega, fun x hx => ?_⟩
  obtain ⟨i, hi⟩ := List.getElem?_of_mem hx
  rw [blankL, List.getElem?_zipWith] at hi
  cases h1 : l[i]? with
  | none => rw [h1] at hi; simp at hi
  | some y =>
    cases h2 : have_[i]? with
    | none => rw [h1, h2] at hi; simp at hi
    | some b =>
      rw [h1, h2] at hi
      simp at hi
      rw [← hi]
      split
      · exact h.2 y (List.mem_of_getElem? h1)
      · simp
theorem dec_flat {c : Cfg} {data : List UInt8} (hC : ConfP c) (hcap : ¬ confCap c < data.length) {l : Tab} {have_ : List Bool} (hl : l.length = c.k.toNat + c.m.toNat) (hh : have_.length = l.length)
    (he : ∀ i : Nat, have_[i]? = some true → l[i]? = (encL (splL c data) c.m.toNat)[i]?) : (decD c.k l have_).1.flatten.length < 2 ^ 46 := by
  have hn := conf_nat hC
  have hsl := splL_len (c := c) (data := data)
  have hP : EncP (splL c data) c.m.toNat := by rw [hn.2.1]; exact (spl_ok hC hcap).1
  obtain ⟨_, h2⟩ := dec_of hP (by rw [hl, hsl]) hh he
  rw [hsl, hn.1] at h2
  rw [h2]
  split
  · simp
  · have hKZ : c.k.toNat * c.sh.toNat ≤ 255 * 1024 := Nat.mul_le_mul hn.2.2.2.2.1 hn.2.2.2.2.2.2.1
    rw [spl_flat hC hcap, stext_len (by rw [cap_nat hC] at hcap; omega)]
    omega
def SbInv (c : Cfg) (data : List UInt8) (l : Tab) (have_ : List Bool) (i : Nat) (r : Regs) (h : Heap) : Prop :=
  i ≤ l.length ∧ rg r 1 = S data ∧ rg r 2 = OL have_ ∧ rg r 3 = .ptr 0 0 ∧ rg r 7 = SL l ∧ rg r 9 = .int .i64 (cnt (have_.take i)) ∧ rg r 11 = .int .i64 i ∧ Own h (rg r 10) (((blankL l have_).take i).map S) ∧
  h.get 0 = some [.int .i64 c.k, .int .i64 c.m, .int .i64 c.sh, .int .i64 c.st, .int .i64 c.sl] ∧ ∀ q off n cc z, rg r 10 = .sl q off n cc z → q ≠ 0
theorem stripeBack_pure (c : Cfg) (data : List UInt8) (have_ : List Bool) (hcw : CfW c) (hd : data.length < 2 ^ 63) (hhv : have_.length < 2 ^ 48) : CPure Tryd.prog 5 [CfA c, S data, OL have_] (.bool true) := by
  refine CPure.of_sem (k := 1) ?_
  refine CSem.body hm Tryd.func5 rfl (by kernel_rfl) (by kernel_rfl) (by simp [Tryd.ntmps5]) ?_
  simp [Tryd.f5, CfA, AV.cells, loadX_agg, takeN, Heap.get_alloc]
  refine (tiny_call c _).use ?_
  by_cases hT : TinyP c
  rotate_left
  · simp [hT]
    refine out13 _ _ ?_
    simp
  by_cases hLa : (5000 : Int) < data.length
  · simp [hT, hLa]
    refine out13 _ _ ?_
    simp
  simp [hT, hLa, CfA, AV.cells, loadX_agg, takeN, Heap.get_alloc]
  refine (split_callS c data (by omega) _).use ?_
  by_cases hA : ConfP c ∧ ¬ confCap c < data.length
  rotate_left
  · simp [rL, splR_err hA]
    refine out13 _ _ ?_
    simp
  obtain ⟨hC, hcap⟩ := hA
  have hn := conf_nat hC
  rw [(spl_ok hC hcap).2]
  have hl : (encL (splL c data) c.m.toNat).length = c.k.toNat + c.m.toNat := by rw [encL_len, splL_len]
  have hsm := enc_small hC hcap
  have hjo := fun (l : Tab) (have_ : List Bool) => join_of (l := l) (have_ := have_) hC hcap
  have hfo := fun (l : Tab) (have_ : List Bool) => dec_flat (l := l) (have_ := have_) hC hcap
  generalize encL (splL c data) c.m.toNat = l at hl hsm hjo hfo
  by_cases h3 : have_.length = l.length
  rotate_left
  · have h3' : ¬ ((have_.length : Int) = (l.length : Int)) := by omega
    simp [rL, h3]
    refine out13 _ _ ?_
    simp
  simp [rL, h3]
  refine wpc_loop (SbInv c data l have_) (l.length - ·) ?_ 0 ?_
  · rintro i r hp ⟨hi, g1, g2, g3, g7, g9, g11, ho, k0, hne⟩
    rcases Nat.lt_or_eq_of_le hi with hlt | heq
    · have hx : l[i]? = some l[i] := List.getElem?_eq_getElem hlt
      have hlh : i < have_.length := by omega
      have hy : have_[i]? = some have_[i] := List.getElem?_eq_getElem hlh
      have hz := blankL_get hx hy
      have hct : cnt (have_.take (i + 1)) = cnt (have_.take i) + (if have_[i] = true then 1 else 0) := by rw [List.take_succ_eq_append_getElem hlh, cnt_snoc]
      have hcl : cnt (have_.take i) ≤ i := by
        unfold cnt
        exact Nat.le_trans (List.length_filter_le _ _) (by simp; omega)
      have hw1 : IntKind.i64.wrap ((cnt (have_.take i) : Int) + 1) = (cnt (have_.take i) : Int) + 1 := wrap64 (by omega) (by omega)
      have hw2 : IntKind.i64.wrap ((i : Int) + 1) = (i : Int) + 1 := wrap64 (by omega) (by omega)
      have hgl : (((blankL l have_).take i).map S).length < 2 ^ 40 := by simp; omega
      cases hb : have_[i] with
      | false =>
        rw [hb, if_neg (by simp)] at hz
        obtain ⟨x', h', e, ho', hnx, hat, hk2⟩ := append_own (P := Tryd.prog) (t := 26) (xt := 26) (by kernel_rfl) ho hgl (S_atom [])
        simp [g1, g2, g3, g7, g9, g11, hlt, hlh, hy, hb, hw2, buildSlice_one (P := Tryd.prog) (t := 26) (xt := 26) (by kernel_rfl), e]
        refine ⟨i + 1, by omega, by omega, by simp [g1], by simp [g2], by simp [g3], by simp [g7], by simp [g9, hct, hb], by simp, ?_, ?_, ?_⟩
        · rw [take_map_succ _ hz]; simpa using ho'
        · simpa using hk2 0 _ k0 (fun off n cc z e => hne 0 off n cc z e rfl)
        · intro q off n cc z e
          have := hat.2 q off n cc z (by simpa using e)
          omega
      | true =>
        rw [hb, if_pos rfl] at hz
        obtain ⟨x', h', e, ho', hnx, hat, hk2⟩ := append_own (P := Tryd.prog) (t := 26) (xt := 26) (by kernel_rfl) ho hgl (S_atom l[i])
        simp [g1, g2, g3, g7, g9, g11, hlt, hlh, hy, hb, hw1, hw2, buildSlice_one (P := Tryd.prog) (t := 26) (xt := 26) (by kernel_rfl), e]
        refine ⟨i + 1, by omega, by omega, by simp [g1], by simp [g2], by simp [g3], by simp [g7], by simp [hct, hb], by simp, ?_, ?_, ?_⟩
        · rw [take_map_succ _ hz]; simpa using ho'
        · simpa using hk2 0 _ k0 (fun off n cc z e => hne 0 off n cc z e rfl)
        · intro q off n cc z e
          have := hat.2 q off n cc z (by simpa using e)
          omega
    · have hgl := blankL_len h3
      have hth : have_.take i = have_ := by rw [heq, ← h3, List.take_length]
      rw [hth] at g9
      rw [heq, List.take_of_length_le (by omega)] at ho
      have hsn : ∀ k, snap hp true (k + 2) (rg r 10) = some (SL (blankL l have_)) := fun k => ho.snap (fun _ => rfl)
      have hgs := blank_sm (have_ := have_) hsm
      have hj := hjo (blankL l have_) have_ (by rw [hgl, hl]) (by rw [hgl, h3]) (fun i hb => blank_at h3 hb)
      have hf := hfo (blankL l have_) have_ (by rw [hgl, hl]) (by rw [hgl, h3]) (fun i hb => blank_at h3 hb)
      have hck : ((cnt have_ : Int) < c.k) ↔ cnt have_ < c.k.toNat := by omega
      simp [g1, g2, g3, g7, g9, g11, heq, CfA, AV.cells, loadX_agg, takeN, k0]
      refine (sjoin_callS c (blankL l have_) have_ hgs (wf_of13 (by omega) (by omega)) hhv hf (hsn 0) (by simp)).use ?_
      rw [joinA, hj]
      by_cases hc : cnt have_ < c.k.toNat
      · simp [g1, g2, g3, g7, g9, hc, hck, fieldAddrX, k0]
        refine out13 _ _ ?_
        simp
      · simp [g1, g2, g3, g7, g9, hc, hck, fieldAddrX, k0]
        refine out13 _ _ ?_
        simp
  · exact ⟨Nat.zero_le _, by simp, by simp, by simp, by simp, by simp [cnt], by simp, .inl ⟨by simp, by simp⟩, by simp [Heap.get_alloc], by simp⟩
end Go.Proofs.YtgcfmodgabeocaaDoor.X
