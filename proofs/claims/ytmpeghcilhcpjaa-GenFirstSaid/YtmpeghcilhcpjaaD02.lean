/-
  The laws GenDecodes, GenMore, GenFirst.
-/
import Derived.Test.YtmpeghcilhcpjaaC21
namespace Go.Proofs.Ytmpeghcilhcpjaa.X
open Go.RowKit F
set_option maxRecDepth 100000
set_option linter.unusedSimpArgs false
set_option linter.unusedVariables false

theorem snap_rL {h : Heap} {k : Nat} (l : Tab) : snap h true (k + 2) (SL l) = some (SL l) := snap_SL l
theorem genDecodes_pure (k m : Int) (l : List Int) (wk : (Lit.int .i64 k).wf = true) (wm : (Lit.int .i64 m).wf = true) (hl : l.length < 2 ^ 48) (hw : ∀ x ∈ l, (Lit.int .i64 x).wf = true) : CPure Try.prog 4 [.int .i64 k, .int .i64 m, IL l] (.bool true) := by
  refine CPure.of_sem (k := 1) ?_
  refine CSem.body hm Try.func4 rfl (by kernel_rfl) (by kernel_rfl) (by simp [Try.ntmps4]) ?_
  by_cases h300 : (300 : Int) < l.length
  · simp [Try.f4, h300]
    refine (live04_call _).use ?_
    simp
  simp [Try.f4, h300]
  refine (rgmay_call _ _ _).use ?_
  by_cases hS : GMay k m ∧ (24 : Int) < k + m
  · have hkm : IntKind.i64.wrap (k + m) = k + m := wrap64 (by have := hS.1.1; have := hS.1.2.1; omega) (by have := hS.1.2.2; omega)
    simp [hS.1, hkm, hS.2]
    refine (live04_call _).use ?_
    simp
  have tail : ∀ (r : Regs) (h : Heap), True := fun _ _ => trivial
  by_cases hM : GMay k m
  · have hkm : IntKind.i64.wrap (k + m) = k + m := wrap64 (by have := hM.1; have := hM.2.1; omega) (by have := hM.2.2; omega)
    have h24 : ¬ (24 : Int) < k + m := fun h => hS ⟨hM, h⟩
    simp [hM, hkm, h24]
    refine (dec_call k m l (by omega) _).use ?_
    simp [rL]
    refine (check_call k m l (by omega) _).use ?_
    have hd := (decR_err (k := k) (m := m) (l := l)).1
    simp [hd]
    by_cases hc : checkR k m l = 0
    · obtain ⟨s, _, ho, hkl, hs, hsq, hsr, hdec⟩ := decR_ok hc
      simp [hc]
      refine (rgen_call k m _).use ?_
      have hg : genR k m = (genL k.toNat m.toNat, 0) := by rw [genR, if_pos hM]
      have hk0 : 0 ≤ k := by have := hM.1; omega
      simp [rL, hg, hkl, hk0]
      refine (rpick_call _ _ _).use ?_
      have hn1 : 1 ≤ k.toNat := by have := hM.1; omega
      have hn2 : k.toNat ≤ 255 := by have := hM.2.2.1; omega
      simp [rL, pick_picked hM hkl ho, hdec]
      refine (rmulT_call s.2 (picked k.toNat m.toNat l) (by simp) (by simp)).use ?_
      simp [rL, mulR_one hsr hsq hn1 hn2 (gj_left hsq hs)]
      refine (rident_call k _).use ?_
      have hI : identR k = (identL k.toNat, 0) := by rw [identR, if_pos ⟨hM.1, hM.2.2.1⟩]
      simp [rL, hI]
      refine (same_call (identL k.toNat) (identL k.toNat) (by simp [identL]; omega) (by simp) (by simp)).use ?_
      simp
      refine (live04_call _).use ?_
      simp
    · have hnil := (decR_err (k := k) (m := m) (l := l)).2 hc
      simp [hc, hnil]
      refine (live04_call _).use ?_
      simp
  · simp [hM]
    refine (dec_call k m l (by omega) _).use ?_
    simp [rL]
    refine (check_call k m l (by omega) _).use ?_
    have hd := (decR_err (k := k) (m := m) (l := l)).1
    have hc : checkR k m l = 1 := by rw [checkR, if_pos hM]
    have hnil := (decR_err (k := k) (m := m) (l := l)).2 (by rw [hc]; decide)
    simp [hd, hc, hnil]
    refine (live04_call _).use ?_
    simp

theorem genMore_pure (k m more : Int) (wk : (Lit.int .i64 k).wf = true) (wm : (Lit.int .i64 m).wf = true) (wr : (Lit.int .i64 more).wf = true) : CPure Try.prog 6 [.int .i64 k, .int .i64 m, .int .i64 more] (.bool true) := by
  refine CPure.of_sem (k := 1) ?_
  refine CSem.body hm Try.func6 rfl (by kernel_rfl) (by kernel_rfl) (by simp [Try.ntmps6]) ?_
  have out : ∀ (h : Heap) (K : AV → Heap → Prop), K (.bool true) h → Call Try.prog 24 [] h K := fun h K hK => (live04_call h).use hK
  by_cases h1 : k < 1
  · simp [Try.f6, h1]
    refine out _ _ ?_
    simp
  by_cases h2 : m < 0
  · simp [Try.f6, h1, h2]
    refine out _ _ ?_
    simp
  by_cases h3 : more < 0
  · simp [Try.f6, h1, h2, h3]
    refine out _ _ ?_
    simp
  by_cases h4 : 40 < k
  · simp [Try.f6, h1, h2, h3, h4]
    refine out _ _ ?_
    simp
  by_cases h5 : 40 < m
  · simp [Try.f6, h1, h2, h3, h4, h5]
    refine out _ _ ?_
    simp
  by_cases h6 : 40 < more
  · simp [Try.f6, h1, h2, h3, h4, h5, h6]
    refine out _ _ ?_
    simp
  obtain ⟨K, rfl⟩ := Int.eq_ofNat_of_zero_le (by omega : 0 ≤ k)
  obtain ⟨M, rfl⟩ := Int.eq_ofNat_of_zero_le (by omega : 0 ≤ m)
  obtain ⟨R, rfl⟩ := Int.eq_ofNat_of_zero_le (by omega : 0 ≤ more)
  have e1 : IntKind.i64.wrap ((K : Int) + M) = (K : Int) + M := wrap64 (by omega) (by omega)
  have e2 : IntKind.i64.wrap ((K : Int) + M + R) = (K : Int) + M + R := wrap64 (by omega) (by omega)
  have e3 : IntKind.i64.wrap ((M : Int) + R) = (M : Int) + R := wrap64 (by omega) (by omega)
  by_cases h7 : (40 : Int) < (K : Int) + M + R
  · simp [Try.f6, h1, h2, h3, h4, h5, h6, e1, e2, h7]
    refine out _ _ ?_
    simp
  simp [Try.f6, h1, h2, h3, h4, h5, h6, e1, e2, e3, h7]
  refine (gen_call _ _ _).use ?_
  have g1 : genR K M = (genL K M, 0) := by rw [genR, if_pos ⟨by omega, by omega, by omega, by omega⟩]; rfl
  have g2 : genR K ((M : Int) + R) = (genL K (M + R), 0) := by rw [genR, if_pos ⟨by omega, by omega, by omega, by omega⟩]; rfl
  simp [rL, g1, e3]
  refine (gen_call _ _ _).use ?_
  have l1 : (genL K M).length = K + M := genL_len _ _
  have l2 : (genL K (M + R)).length = K + (M + R) := genL_len _ _
  have k2 : (K : Int) + ((M : Int) + R) = (K : Int) + M + R := by omega
  have k3 : K + M ≤ K + (M + R) := by omega
  have k4 : (K : Int) + M ≤ (K : Int) + M + R := by omega
  have k5 : 0 ≤ (K : Int) + M := by omega
  have k6 : ((K : Int) + M).toNat = K + M := by omega
  simp [rL, g2, l1, l2, e1, e2, k2, k3, k4, k5, k6]
  have ht : (genL K (M + R)).take (K + M) = genL K M := by
    apply List.ext_getElem?
    intro i
    rw [List.getElem?_take]
    by_cases hi : i < K + M
    · rw [if_pos hi, genL_get hi, genL_get (by omega)]
    · rw [if_neg hi, List.getElem?_eq_none (by rw [l1]; omega)]
  simp [ht]
  refine (same_call (genL K M) (genL K M) (by omega) (by simp) (by simp)).use ?_
  simp
  refine out _ _ ?_
  simp
theorem genFirst_pure (k m : Int) (l : List Int) (wk : (Lit.int .i64 k).wf = true) (wm : (Lit.int .i64 m).wf = true) (hl : l.length < 2 ^ 48) (hw : ∀ x ∈ l, (Lit.int .i64 x).wf = true) : CPure Try.prog 8 [.int .i64 k, .int .i64 m, IL l] (.bool true) := by
  refine CPure.of_sem (k := 1) ?_
  refine CSem.body hm Try.func8 rfl (by kernel_rfl) (by kernel_rfl) (by simp [Try.ntmps8]) ?_
  have out : ∀ (h : Heap) (K : AV → Heap → Prop), K (.bool true) h → Call Try.prog 24 [] h K := fun h K hK => (live04_call h).use hK
  by_cases h1 : k < 1
  · simp [Try.f8, h1]
    refine out _ _ ?_
    simp
  by_cases h2 : m < 0
  · simp [Try.f8, h1, h2]
    refine out _ _ ?_
    simp
  by_cases h4 : 20 < k
  · simp [Try.f8, h1, h2, h4]
    refine out _ _ ?_
    simp
  by_cases h5 : 20 < m
  · simp [Try.f8, h1, h2, h4, h5]
    refine out _ _ ?_
    simp
  have e1 : IntKind.i64.wrap (k + m) = k + m := wrap64 (by omega) (by omega)
  by_cases h7 : 20 < k + m
  · simp [Try.f8, h1, h2, h4, h5, e1, h7]
    refine out _ _ ?_
    simp
  by_cases h8 : (l.length : Int) < k
  · simp [Try.f8, h1, h2, h4, h5, e1, h7, h8]
    refine out _ _ ?_
    simp
  have hk0 : 0 ≤ k := by omega
  have hkl : k ≤ l.length := by omega
  simp [Try.f8, h1, h2, h4, h5, e1, h7, h8]
  refine (dec_call k m l (by omega) _).use ?_
  simp [rL, hk0, hkl]
  refine (dec_call k m (l.take k.toNat) (by simp; omega) _).use ?_
  have hd := (decR_err (k := k) (m := m) (l := l)).1
  simp [rL, hd]
  by_cases hc : checkR k m l = 0
  · obtain ⟨s, hM, ho, hkl, hs, hsq, hsr, hdec⟩ := decR_ok hc
    have hsame : decR k m (l.take k.toNat) = decR k m l := by
      have h3 : ¬ ((l.take k.toNat).length : Int) < k := by rw [List.length_take]; omega
      have a1 : decR k m (l.take k.toNat) = invR (pickR (genL k.toNat m.toNat) (l.take k.toNat)).1 := by
        rw [decR, if_neg (fun h => h hM), if_neg (by rw [okH_take ho]; simp), if_neg h3, List.take_take, Nat.min_self]
      rw [a1, decR, if_neg (fun h => h hM), if_neg (by rw [ho]; simp), if_neg h8]
    simp [hc, hsame, hdec]
    refine (same_call s.2 s.2 (by rw [hsr.len]; omega) (by simp) (by simp)).use ?_
    simp
    refine out _ _ ?_
    simp
  · have hnil := (decR_err (k := k) (m := m) (l := l)).2 hc
    simp [hc, hnil]
    refine out _ _ ?_
    simp
end Go.Proofs.Ytmpeghcilhcpjaa.X
