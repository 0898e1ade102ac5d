/-
  The laws GenMinors, GenData.
-/
import Derived.Test.YtmpeghcilhcpjaaD02
import Derived.Test.YtmpeghcilhcpjaaC23
namespace Go.Proofs.Ytmpeghcilhcpjaa.X
open Go.RowKit F
set_option maxRecDepth 100000
set_option linter.unusedSimpArgs false
set_option linter.unusedVariables false

theorem det_picked {k m : Int} {l : List Int} (hc : checkR k m l = 0) : detL (picked k.toNat m.toNat l) ≠ 0 := by
  obtain ⟨s, hM, ho, hkl, hs, hsq, hsr, hdec⟩ := decR_ok hc
  rw [detL_det hsq]
  exact det_ne hsq hs
def GmInv (k m : Int) (l : List Int) (i : Nat) (r : Regs) (_ : Heap) : Prop :=
  i ≤ (genL k.toNat m.toNat).length ∧ rg r 0 = .int .i64 k ∧ rg r 2 = IL l ∧ rg r 7 = SL (genL k.toNat m.toNat) ∧ rg r 9 = .int .i64 i
theorem genMinors_pure (k m : Int) (l : List Int) (wk : (Lit.int .i64 k).wf = true) (wm : (Lit.int .i64 m).wf = true) (hl : l.length < 2 ^ 48) (hw : ∀ x ∈ l, (Lit.int .i64 x).wf = true) : CPure Try.prog 5 [.int .i64 k, .int .i64 m, IL l] (.bool true) := by
  refine CPure.of_sem (k := 1) ?_
  refine CSem.body hm Try.func5 rfl (by kernel_rfl) (by kernel_rfl) (by simp [Try.ntmps5]) ?_
  have out : ∀ (h : Heap) (K : AV → Heap → Prop), K (.bool true) h → Call Try.prog 24 [] h K := fun h K hK => (live04_call h).use hK
  simp [Try.f5]
  refine (rgmay_call _ _ _).use ?_
  by_cases hM : GMay k m
  rotate_left
  · simp [hM]
    refine out _ _ ?_
    simp
  have hkm : IntKind.i64.wrap (k + m) = k + m := wrap64 (by have := hM.1; have := hM.2.1; omega) (by have := hM.2.2; omega)
  by_cases h5 : 5 < k
  · simp [hM, h5]
    refine out _ _ ?_
    simp
  by_cases h12 : 12 < k + m
  · simp [hM, h5, hkm, h12]
    refine out _ _ ?_
    simp
  by_cases hlk : (l.length : Int) = k
  rotate_left
  · simp [hM, h5, hkm, h12, hlk]
    refine out _ _ ?_
    simp
  simp [hM, h5, hkm, h12, hlk]
  refine (check_call k m l (by omega) _).use ?_
  by_cases hc : checkR k m l = 0
  rotate_left
  · simp [hc]
    refine out _ _ ?_
    simp
  simp [hc]
  refine (gen_call _ _ _).use ?_
  have g1 : genR k m = (genL k.toNat m.toNat, 0) := by rw [genR, if_pos hM]
  have l1 : ((genL k.toNat m.toNat).length : Int) = k + m := by rw [genL_len]; have := hM.1; have := hM.2.1; omega
  simp [rL, g1, hkm, l1]
  refine wpc_loop (GmInv k m l) ((genL k.toNat m.toNat).length - ·) ?_ 0 ?_
  · rintro i r h ⟨hi, g0, g2, g7, g9⟩
    rcases Nat.lt_or_eq_of_le hi with hlt | heq
    · have hx : (genL k.toNat m.toNat)[i]? = some (genL k.toNat m.toNat)[i] := List.getElem?_eq_getElem hlt
      have hrl : ((genL k.toNat m.toNat)[i].length : Int) = k := by rw [genL_mem (List.getElem_mem hlt)]; have := hM.1; omega
      have hl1 := hM.2.2
      have hi64 : IntKind.i64.wrap ((i : Int) + 1) = (i : Int) + 1 := wrap64 (by omega) (by omega)
      simp [g0, g2, g7, g9, hlt, hx, hrl, hi64]
      exact ⟨i + 1, by omega, by omega, by simp [g0], by simp [g2], by simp [g7], by simp⟩
    · obtain ⟨s, _, ho, hkl, hs, hsq, hsr, hdec⟩ := decR_ok hc
      have hpk := pick_picked hM hkl ho
      rw [List.take_of_length_le (by omega)] at hpk
      simp [g0, g2, g7, g9, heq]
      refine (rpick_call _ _ _).use ?_
      simp [rL, hpk]
      have hpl : ∀ x ∈ picked k.toNat m.toNat l, x.length = k.toNat := fun x hx => by
        obtain ⟨j, hj, rfl⟩ := List.getElem_of_mem hx
        have := hsq.row j (by rw [← hsq.len]; exact hj)
        rwa [rowN, List.getElem?_eq_getElem hj] at this
      refine (det_call (picked k.toNat m.toNat l) (by rw [hsq.len]; omega) (fun x hx => by rw [hsq.len, hpl x hx]; omega) _).use ?_
      have hd := det_picked hc
      simp [hd]
      refine out _ _ ?_
      simp
  · exact ⟨Nat.zero_le _, by simp, by simp, by simp, by simp⟩

/-- 0, 1, 2, .. -/
def upL (n : Nat) : List Int := (List.range n).map Int.ofNat
theorem upL_ok {k m more : Nat} (hm : more ≤ m) (hk : 1 ≤ k) (hkm : k + m ≤ 255) : checkR k m (upL (k + more)) = 0 := by
  have hM : GMay (k : Int) m := ⟨by omega, by omega, by omega, by omega⟩
  have ho : okH ((k : Int) + m) (-1) (upL (k + more)) = true := by
    refine okH_of (fun x hx => ?_) ?_
    · obtain ⟨j, hj, rfl⟩ := List.mem_map.1 hx
      have := List.mem_range.1 hj
      show (-1 : Int) < (j : Int) ∧ (j : Int) < k + m
      omega
    · rw [upL, List.pairwise_map]
      exact List.pairwise_lt_range.imp fun h => Int.ofNat_lt.2 h
  have hl : ¬ ((upL (k + more)).length : Int) < k := by simp [upL]; omega
  rw [checkR, if_neg (fun h => h hM), if_neg (by rw [ho]; simp), if_neg hl]
theorem upL_dec {k m more : Nat} (hm : more ≤ m) (hk : 1 ≤ k) (hkm : k + m ≤ 255) : decR k m (upL (k + more)) = (identL k, 0) := by
  obtain ⟨s, hM, ho, hkl, hs, hsq, hsr, hdec⟩ := decR_ok (upL_ok hm hk hkm)
  rw [hdec]
  simp only [Int.toNat_natCast] at hs hsq hsr
  have hp : picked k m (upL (k + more)) = identL k := by
    refine tab_ext hsq (identL_sq k) fun i j hi hj => ?_
    have e : (upL (k + more)).take ((k : Int).toNat) = upL k := by simp [upL, ← List.map_take, List.take_range]
    have hil : i < ((upL (k + more)).take ((k : Int).toNat)).length := by rw [e]; simpa [upL] using hi
    have := picked_ent (k := (k : Int)) (m := (m : Int)) (l := upL (k + more)) (j := j) hil
    simp only [Int.toNat_natCast] at this
    rw [this, ent_identL hi hj]
    have e3 : ((upL (k + more)).take k)[i]'(by simpa using hil) = (i : Int) := by simp [upL]
    rw [e3, Int.toNat_natCast, genL_ent (by omega) hj, if_pos hi]
  have : s.2 = identL k := by
    refine tab_ext hsr (identL_sq k) fun i j hi hj => ?_
    have h1 := gj_left hsq hs i j hi hj
    rw [hp] at h1
    rw [ent_identL hi hj, ← h1, mm_congr (A' := ent s.2) (B' := i1) (fun _ _ => rfl) (fun l hl => ent_identL hl hj)]
    exact (sm_i1' hj).symm
  rw [this]
def GdInv (k m more : Nat) (i : Nat) (r : Regs) (h : Heap) : Prop :=
  i ≤ k + more ∧ rg r 0 = .int .i64 k ∧ rg r 1 = .int .i64 m ∧ rg r 2 = .int .i64 more ∧ rg r 8 = .int .i64 i ∧ Own h (rg r 7) ((upL i).map I64)
theorem genData_pure (k m more : Int) (wk : (Lit.int .i64 k).wf = true) (wm : (Lit.int .i64 m).wf = true) (wr : (Lit.int .i64 more).wf = true) : CPure Try.prog 7 [.int .i64 k, .int .i64 m, .int .i64 more] (.bool true) := by
  refine CPure.of_sem (k := 1) ?_
  refine CSem.body hm Try.func7 rfl (by kernel_rfl) (by kernel_rfl) (by simp [Try.ntmps7]) ?_
  have out : ∀ (h : Heap) (K : AV → Heap → Prop), K (.bool true) h → Call Try.prog 24 [] h K := fun h K hK => (live04_call h).use hK
  by_cases h1 : k < 1
  · simp [Try.f7, h1]
    refine out _ _ ?_
    simp
  by_cases h2 : m < 0
  · simp [Try.f7, h1, h2]
    refine out _ _ ?_
    simp
  by_cases h3 : 20 < k
  · simp [Try.f7, h1, h2, h3]
    refine out _ _ ?_
    simp
  by_cases h4 : 20 < m
  · simp [Try.f7, h1, h2, h3, h4]
    refine out _ _ ?_
    simp
  obtain ⟨K, rfl⟩ := Int.eq_ofNat_of_zero_le (by omega : 0 ≤ k)
  obtain ⟨M, rfl⟩ := Int.eq_ofNat_of_zero_le (by omega : 0 ≤ m)
  have e1 : IntKind.i64.wrap ((K : Int) + M) = (K : Int) + M := wrap64 (by omega) (by omega)
  by_cases h5 : (24 : Int) < (K : Int) + M
  · simp [Try.f7, h1, h2, h3, h4, e1, h5]
    refine out _ _ ?_
    simp
  by_cases h6 : more < 0
  · simp [Try.f7, h1, h2, h3, h4, e1, h5, h6]
    refine out _ _ ?_
    simp
  by_cases h7 : (M : Int) < more
  · simp [Try.f7, h1, h2, h3, h4, e1, h5, h6, h7]
    refine out _ _ ?_
    simp
  obtain ⟨R, rfl⟩ := Int.eq_ofNat_of_zero_le (by omega : 0 ≤ more)
  simp [Try.f7, h1, h2, h3, h4, e1, h5, h6, h7]
  refine wpc_loop (GdInv K M R) (K + R - ·) ?_ 0 ?_
  · rintro i r h ⟨hi, g0, g1, g2, g8, ho⟩
    have e2 : IntKind.i64.wrap ((K : Int) + R) = (K : Int) + R := wrap64 (by omega) (by omega)
    rcases Nat.lt_or_eq_of_le hi with hlt | heq
    · have hlt' : (i : Int) < (K : Int) + R := by omega
      have hi64 : IntKind.i64.wrap ((i : Int) + 1) = (i : Int) + 1 := wrap64 (by omega) (by omega)
      obtain ⟨x', h', e, ho', hnx, hat, hk⟩ := append_own (P := Try.prog) (t := 29) (xt := 29) (by kernel_rfl) ho (by simp [upL]; omega) (I64_atom (i : Int))
      simp only [I64] at e
      simp [g0, g1, g2, g8, e2, hlt', hi64, buildSlice_one (P := Try.prog) (t := 29) (xt := 29) (by kernel_rfl), e]
      refine ⟨i + 1, by omega, by omega, by simp [g0], by simp [g1], by simp [g2], by simp, ?_⟩
      rw [show (upL (i + 1)).map I64 = (upL i).map I64 ++ [I64 (i : Int)] by simp [upL, List.range_succ]]
      simpa using ho'
    · have hnlt : ¬ (i : Int) < (K : Int) + R := by omega
      simp [g0, g1, g2, g8, e2, hnlt]
      rw [heq] at ho
      refine (dec_callS K M (upL (K + R)) (by simp [upL]; omega) (ho.snap (fun _ => rfl))).use ?_
      simp [rL, g0, upL_dec (k := K) (m := M) (more := R) (by omega) (by omega) (by omega)]
      refine (rident_call _ _).use ?_
      have hI : identR (K : Int) = (identL K, 0) := by rw [identR, if_pos ⟨by omega, by omega⟩]; rfl
      simp [rL, hI]
      refine (same_call (identL K) (identL K) (by simp [identL]; omega) (by simp) (by simp)).use ?_
      simp
      refine out _ _ ?_
      simp
  · exact ⟨Nat.zero_le _, by simp, by simp, by simp, by simp, .inl ⟨by simp, by simp [upL]⟩⟩
end Go.Proofs.Ytmpeghcilhcpjaa.X
