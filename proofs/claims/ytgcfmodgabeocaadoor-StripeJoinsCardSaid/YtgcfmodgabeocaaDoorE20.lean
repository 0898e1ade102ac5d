/-
  sheetpilelaw13.some; StripeJoins.
-/
import Derived.Test.YtgcfmodgabeocaaDoorE19
namespace Go.Proofs.YtgcfmodgabeocaaDoor.X
open Go.RowKit F
set_option maxRecDepth 100000
set_option linter.unusedSimpArgs false
set_option linter.unusedVariables false

def SomeP (c : Cfg) (l : Tab) (have_ : List Bool) : Prop := (∀ i : Nat, i < c.k.toNat → have_[i]? = some true) ∧ (textR (l.take c.k.toNat)).2 = true
theorem some_pure (c : Cfg) (l : Tab) (have_ : List Bool) (hC : ConfP c) (hl : (l.length : Int) = c.k + c.m) (hh : have_.length = l.length) (hn : ¬ SomeP c l have_) (hfl : (l.take c.k.toNat).flatten.length < 2 ^ 46) :
    CPure Tryd.prog 16 [CfA c, SL l, OL have_] (.bool false) := by
  have hcn := conf_nat hC
  refine CPure.of_sem (k := 1) ?_
  refine CSem.body hm Tryd.func16 rfl (by kernel_rfl) (by kernel_rfl) (by simp [Tryd.ntmps16]) ?_
  simp [Tryd.f16, CfA, AV.cells, loadX_agg, takeN, Heap.get_alloc]
  refine wpc_loop (fun (i : Nat) r hp => i ≤ c.k.toNat ∧ rg r 1 = SL l ∧ rg r 2 = OL have_ ∧ rg r 3 = .ptr 0 0 ∧ rg r 7 = .int .i64 i ∧ hp.get 0 = some [.int .i64 c.k, .int .i64 c.m, .int .i64 c.sh, .int .i64 c.st, .int .i64 c.sl] ∧
    ∀ j, j < i → have_[j]? = some true) (c.k.toNat - ·) ?_ 0 ?_
  · rintro i r hp ⟨hi, g1, g2, g3, g7, k0, hok⟩
    rcases Nat.lt_or_eq_of_le hi with hlt | heq
    · have hlt' : (i : Int) < c.k := by omega
      have hih : i < have_.length := by omega
      have hy : have_[i]? = some have_[i] := List.getElem?_eq_getElem hih
      have hw2 : IntKind.i64.wrap ((i : Int) + 1) = (i : Int) + 1 := wrap64 (by omega) (by omega)
      cases hb : have_[i] with
      | false => simp [g1, g2, g3, g7, fieldAddrX, k0, hlt', hih, hy, hb]
      | true =>
        simp [g1, g2, g3, g7, fieldAddrX, k0, hlt', hih, hy, hb, hw2]
        refine ⟨i + 1, by omega, by omega, by push_cast; rfl, fun j hj => ?_⟩
        rcases Nat.lt_or_eq_of_le (Nat.lt_succ_iff.1 hj) with h5 | h5
        · exact hok j h5
        · subst h5; rw [hy, hb]
    · have hge : ¬ ((i : Int) < c.k) := by omega
      have ht : (textR (l.take c.k.toNat)).2 = false := by
        cases hb : (textR (l.take c.k.toNat)).2 with
        | false => rfl
        | true => exact (hn ⟨fun j hj => hok j (by omega), hb⟩).elim
      have hk1 : c.k ≤ (l.length : Int) := by omega
      have h0 : 0 ≤ c.k := by omega
      simp [g1, g2, g3, g7, fieldAddrX, k0, hge]
      refine wpc_draw 11 (by kernel_rfl) ?_
      simp [g1, g2, g3, g7, fieldAddrX, k0, hge, loadX_agg, takeN, h0, hk1]
      have hcf : AV.agg [.int .i64 c.k, .int .i64 c.m, .int .i64 c.sh, .int .i64 c.st, .int .i64 c.sl] = CfA c := rfl
      rw [hcf]
      refine QCall.use (x := .tup [S (textR (l.take c.k.toNat)).1, .bool (textR (l.take c.k.toNat)).2]) ((rtext_pure c (l.take c.k.toNat) (by simp; omega) hfl).quiet (k := 2) (fun _ => by simp [CfA])) ?_
      simp [ht]
  · exact ⟨by omega, by simp, by simp, by simp, by simp, by simp [Heap.get_alloc], fun j h => by omega⟩
theorem some_callS (c : Cfg) (l : Tab) (have_ : List Bool) (hC : ConfP c) (hl : (l.length : Int) = c.k + c.m) (hh : have_.length = l.length) (hn : ¬ SomeP c l have_) (hfl : (l.take c.k.toNat).flatten.length < 2 ^ 46) (h : Heap) :
    CSem Tryd.prog 16 [CfA c, SL l, OL have_] h fun x' h' => x' = .bool false ∧ h' = h := (some_pure c l have_ hC hl hh hn hfl).call (k := 2) (by simp [CfA])
theorem flat_small {l : Tab} (h : SmallP l 14 60) (n : Nat) : (l.take n).flatten.length < 2 ^ 46 := by
  have h1 : ∀ l : Tab, (∀ x ∈ l, x.length ≤ 60) → l.flatten.length ≤ 60 * l.length := by
    intro l
    induction l with
    | nil => simp
    | cons a t ih =>
      intro hx
      have := ih (fun x hx' => hx x (by simp [hx']))
      have := hx a (by simp)
      rw [List.flatten_cons, List.length_append, List.length_cons]; omega
  have h2 := h1 (l.take n) (fun x hx => by have := h.2 x (List.mem_of_mem_take hx); omega)
  have := h.1
  rw [List.length_take] at h2
  have h3 : min n l.length ≤ l.length := Nat.min_le_right _ _
  omega
theorem stripeJoins_pure (c : Cfg) (l : Tab) (have_ : List Bool) (hcw : CfW c) (hll : l.length < 2 ^ 48) (hlx : ∀ x ∈ l, x.length < 2 ^ 63) (hhv : have_.length < 2 ^ 48) : CPure Tryd.prog 4 [CfA c, SL l, OL have_] (.bool true) := by
  refine CPure.of_sem (k := 1) ?_
  refine CSem.body hm Tryd.func4 rfl (by kernel_rfl) (by kernel_rfl) (by simp [Tryd.ntmps4]) ?_
  simp [Tryd.f4, CfA, AV.cells, loadX_agg, takeN, Heap.get_alloc]
  refine (tiny_call c _).use ?_
  by_cases hT : TinyP c
  rotate_left
  · simp [hT]
    refine out13 _ _ ?_
    simp
  simp [hT]
  refine (small_call l 14 60 (by omega) _).use ?_
  by_cases h1 : SmallP l 14 60
  rotate_left
  · simp [h1]
    refine out13 _ _ ?_
    simp
  by_cases h2 : (60 : Int) < have_.length
  · simp [h1, h2]
    refine out13 _ _ ?_
    simp
  have hs : Sm l := ⟨by have := h1.1; omega, fun x hx => by have := h1.2 x hx; omega⟩
  have hcf : AV.agg [.int .i64 c.k, .int .i64 c.m, .int .i64 c.sh, .int .i64 c.st, .int .i64 c.sl] = CfA c := rfl
  have hdf : (decD c.k l have_).1.flatten.length < 2 ^ 46 := by
    by_cases hz : decE c.k l have_ = 0
    · obtain ⟨d, hd⟩ := decD_ok hz
      rw [hd.ok]
      have hM := hd.may
      have hM1 := hM.1
      have hM2 := hM.2.1
      have hM3 := hM.2.2.2
      have hr : ∀ x ∈ d, x.length ≤ 60 := fun x hx => by
        rw [hd.row x hx]
        unfold row0
        cases hx0 : (left l have_).take c.k.toNat with
        | nil => simp
        | cons a t =>
          have : a ∈ left l have_ := List.mem_of_mem_take (by rw [hx0]; simp)
          obtain ⟨i, _, hi⟩ := mem_leftX this
          have := h1.2 a (List.mem_of_getElem? hi)
          simp; omega
      have h3 : ∀ l : Tab, (∀ x ∈ l, x.length ≤ 60) → l.flatten.length ≤ 60 * l.length := by
        intro l
        induction l with
        | nil => simp
        | cons a t ih =>
          intro hx
          have := ih (fun x hx' => hx x (by simp [hx']))
          have := hx a (by simp)
          rw [List.flatten_cons, List.length_append, List.length_cons]; omega
      have h4 := h3 d hr
      have h5 := hd.len
      have := hs.1
      simp only
      omega
    · rw [(decD_err (k := c.k) (l := l) (have_ := have_)).2 hz]; simp
  simp [h1, h2, CfA, AV.cells, loadX_agg, takeN, Heap.get_alloc]
  rw [hcf]
  refine (sjoin_callS c l have_ hs hcw.1 hhv hdf (by simp) (by simp)).use ?_
  simp [joinA, CfA, AV.cells, loadX_agg, takeN, Heap.get_alloc]
  rw [hcf]
  refine (r13check_call c l have_ hs hcw.1 hhv _).use ?_
  by_cases hE : joinE c l have_ = 0
  rotate_left
  · have hj : joinR c l have_ = ([], joinE c l have_) := by
      unfold joinR
      unfold joinE at hE ⊢
      repeat' split
      all_goals first | rfl | (exfalso; simp_all; done) | skip
    simp [hE, hj]
    refine out13 _ _ ?_
    simp
  have hC : ConfP c := by
    by_cases hC : ConfP c
    · exact hC
    · simp [joinE, hC] at hE
  have hlk : (l.length : Int) = c.k + c.m := by
    by_cases hl : (l.length : Int) = c.k + c.m
    · exact hl
    · simp [joinE, hC, hl] at hE
  have hd1 : ¬ decE c.k l have_ = 1 := by
    intro hd
    simp [joinE, hC, hlk, hd] at hE
  have hz : SzP c.sh l have_ := by
    by_cases hz : SzP c.sh l have_
    · exact hz
    · simp [joinE, hC, hlk, hd1, hz] at hE
  have hd0 : decE c.k l have_ = 0 := by simpa [joinE, hC, hlk, hd1, hz] using hE
  obtain ⟨d, hd⟩ := decD_ok hd0
  have hD : DkP c.k l have_ := by
    by_cases hD : DkP c.k l have_
    · exact hD
    · exact (hd1 (by rw [decE, if_pos hD])).elim
  have hhl := hD.1
  have hcn := conf_nat hC
  have hj : joinR c l have_ = txtD d := by simp [joinR, hC, hlk, hd0, hz, hd.ok]
  simp [hE, hj]
  by_cases ht : (txtD d).2 = 0
  rotate_left
  · have ht5 : txtD d = ([], 5) := by
      unfold txtD at ht ⊢
      split
      · rfl
      · rename_i h6
        rw [if_neg h6] at ht
        split
        · rename_i h7; rw [if_pos h7] at ht; exact absurd rfl ht
        · rfl
    have hns : ¬ SomeP c l have_ := by
      rintro ⟨q1, q2⟩
      rw [← dec_first hd hhl q1] at q2
      rw [text_none ht] at q2
      cases q2
    simp [ht5, CfA, AV.cells, loadX_agg, takeN, Heap.get_alloc]
    rw [hcf]
    refine (some_callS c l have_ hC hlk hhl hns (flat_small h1 _) _).use ?_
    simp
    refine out13 _ _ ?_
    simp
  have hrow : ∀ x ∈ d, x.length = c.sh.toNat := fun x hx => by
    rw [hd.row x hx]
    have hf := hd.few
    have hk1 := hd.may.1
    unfold row0
    cases hx0 : (left l have_).take c.k.toNat with
    | nil =>
      have := congrArg List.length hx0
      rw [List.length_take, List.length_nil] at this
      omega
    | cons a t =>
      have : a ∈ left l have_ := List.mem_of_mem_take (by rw [hx0]; simp)
      obtain ⟨i, hb, hi⟩ := mem_leftX this
      obtain ⟨hil, hie⟩ := List.getElem?_eq_some_iff.1 hi
      have := (szP_iff hhl).1 hz i hil hb
      rw [hie] at this
      simp; omega
  obtain ⟨hcap, hsp⟩ := spl_txt hC hd.len hrow ht
  obtain ⟨hP, hsr⟩ := spl_ok hC hcap
  rw [hsp] at hP hsr
  have hcs := cap_small hC hcap
  have hel : (encL d c.m.toNat).length = l.length := by rw [encL_len, hd.len]; omega
  have htk : (encL d c.m.toNat).take c.k.toNat = d := by
    have hdn : d ≠ [] := by intro e; have := hd.len; rw [e] at this; simp at this; omega
    have := encL_data (m := c.m.toNat) hdn hP.2
    rwa [hd.len] at this
  simp [ht, CfA, AV.cells, loadX_agg, takeN, Heap.get_alloc]
  rw [hcf]
  refine (rsplit_callS c (txtD d).1 (by omega) _).use ?_
  rw [hsr]
  have h0 : 0 ≤ c.k := by omega
  have hkl : c.k ≤ ((encL d c.m.toNat).length : Int) := by omega
  simp [rL, hel, fieldAddrX, Heap.get_alloc, h0, hkl, htk]
  have hdsm : Sm d := by have := decD_sm (k := c.k) (have_ := have_) hs; rw [hd.ok] at this; exact this
  refine ⟨by omega, ?_⟩
  refine (agrees_call d l have_ hdsm hs hhl (hd.agrees hhl) (by rw [hd.len]; omega) _).use ?_
  simp
  refine out13 _ _ ?_
  simp
end Go.Proofs.YtgcfmodgabeocaaDoor.X
