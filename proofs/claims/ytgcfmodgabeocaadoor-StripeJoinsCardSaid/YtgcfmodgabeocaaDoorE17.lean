/-
  StripeApart.
-/
import Derived.Test.YtgcfmodgabeocaaDoorE16
namespace Go.Proofs.YtgcfmodgabeocaaDoor.X
open Go.RowKit F
set_option maxRecDepth 100000
set_option linter.unusedSimpArgs false
set_option linter.unusedVariables false

theorem splR_err {c : Cfg} {data : List UInt8} (h : ¬ (ConfP c ∧ ¬ confCap c < data.length)) : (splR c data).2 ≠ 0 := by
  by_cases hC : ConfP c
  · by_cases hcap : confCap c < data.length
    · simp [splR, hC, hcap]
    · exact (h ⟨hC, hcap⟩).elim
  · simp [splR, hC]
theorem stripeApart_pure (c : Cfg) (a b : List UInt8) (_ : CfW c) (ha : a.length < 2 ^ 63) (hb : b.length < 2 ^ 63) : CPure Tryd.prog 7 [CfA c, S a, S b] (.bool true) := by
  refine CPure.of_sem (k := 1) ?_
  refine CSem.body hm Tryd.func7 rfl (by kernel_rfl) (by kernel_rfl) (by simp [Tryd.ntmps7]) ?_
  simp [Tryd.f7, CfA, AV.cells, loadX_agg, takeN, Heap.get_alloc]
  refine (tiny_call c _).use ?_
  by_cases hT : TinyP c
  rotate_left
  · simp [hT]
    refine out13 _ _ ?_
    simp
  by_cases hLa : (5000 : Int) < a.length
  · simp [hT, hLa]
    refine out13 _ _ ?_
    simp
  by_cases hLb : (5000 : Int) < b.length
  · simp [hT, hLa, hLb]
    refine out13 _ _ ?_
    simp
  simp [hT, hLa, hLb, CfA, AV.cells, loadX_agg, takeN, Heap.get_alloc]
  refine (split_callS c a (by omega) _).use ?_
  simp [rL, CfA, AV.cells, loadX_agg, takeN, Heap.get_alloc]
  refine (split_callS c b (by omega) _).use ?_
  by_cases hA : ConfP c ∧ ¬ confCap c < a.length
  rotate_left
  · simp [rL, splR_err hA]
    refine out13 _ _ ?_
    simp
  by_cases hB : ConfP c ∧ ¬ confCap c < b.length
  rotate_left
  · simp [rL, (spl_ok hA.1 hA.2).2, splR_err hB]
    refine out13 _ _ ?_
    simp
  have hn := conf_nat hA.1
  have hla : (encL (splL c a) c.m.toNat).length = c.k.toNat + c.m.toNat := by rw [encL_len, splL_len]
  have hlb : (encL (splL c b) c.m.toNat).length = c.k.toNat + c.m.toNat := by rw [encL_len, splL_len]
  have hta : (encL (splL c a) c.m.toNat).take c.k.toNat = splL c a := by
    have := encL_data (m := c.m.toNat) (spl_ne (data := a) hA.1) (spl_ok hA.1 hA.2).1.2
    rwa [splL_len] at this
  have htb : (encL (splL c b) c.m.toNat).take c.k.toNat = splL c b := by
    have := encL_data (m := c.m.toNat) (spl_ne (data := b) hB.1) (spl_ok hB.1 hB.2).1.2
    rwa [splL_len] at this
  simp only [(spl_ok hA.1 hA.2).2, (spl_ok hB.1 hB.2).2]
  generalize encL (splL c a) c.m.toNat = l1 at hla hta
  generalize encL (splL c b) c.m.toNat = l2 at hlb htb
  have h1 : ¬ ((l1.length : Int) < c.k) := by omega
  have h2 : ¬ ((l2.length : Int) < c.k) := by omega
  have h3 : c.k ≤ (l1.length : Int) := by omega
  have h4 : c.k ≤ (l2.length : Int) := by omega
  have h0 : 0 ≤ c.k := by omega
  simp [rL, fieldAddrX, Heap.get_alloc, h1, h2]
  refine wpc_draw 17 (by kernel_rfl) ?_
  simp [fieldAddrX, Heap.get_alloc, h0, h3, h4, hta, htb]
  refine QCall.use (x := .bool (decide (splL c a = splL c b))) ((same_pure _ _ (by rw [splL_len]; omega)).quiet (k := 2) (fun _ => by simp)) ?_
  have hdd : decide (splL c a = splL c b) = decide (a = b) := decide_eq_decide.2 (spl_inj hA.1 hA.2 hB.2)
  simp [hdd]
  refine QCall.use (x := .bool true) (live13_pure.quiet (k := 1) (fun _ => by simp)) ?_
  simp
end Go.Proofs.YtgcfmodgabeocaaDoor.X
