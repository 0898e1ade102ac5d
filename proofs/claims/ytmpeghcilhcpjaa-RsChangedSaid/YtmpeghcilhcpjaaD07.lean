/-
  sheetpilelaw05.live, small.
-/
import Derived.Test.YtmpeghcilhcpjaaC28
import Derived.Test.YtmpeghcilhcpjaaD04
namespace Go.Proofs.Ytmpeghcilhcpjaa.X
open Go.RowKit F
set_option maxRecDepth 100000
set_option linter.unusedSimpArgs false
set_option linter.unusedVariables false

theorem f5a : encR [[97], [98]] 1 = ([[97], [98], [107]], 0) := by decide +kernel
theorem f5p : gm 97 142 ^^^ gm 98 244 = 107 := by decide +kernel
theorem f5b : decD 2 [[], [98], [107]] [false, true, true] = ([[97], [98]], 0) := by decide +kernel
theorem f5c : decD 2 [[97], [98], [107]] [true, false, false] = ([], 3) := by decide +kernel
theorem f5d : repR 2 [[97], [98], [107]] [true, true, false] 2 = ([107], 0) := by decide +kernel
theorem f5e : delR [[97], [98], [107]] 2 0 [99] = ([[99], [98], [106]], 0) := by decide +kernel
theorem f5f : encR [] 1 = ([], 1) := by decide +kernel
theorem f5g : IsP 2 [[99], [98], [106]] := by decide +kernel
theorem f5h : IsP 2 [[97], [98], [107]] := by decide +kernel
theorem f5i : ¬ IsP 1 [[97], [98], [107]] := by decide +kernel
theorem sm_small {l : Tab} (h1 : l.length < 100) (h2 : ∀ x ∈ l, x.length < 100) : Sm l := ⟨by omega, fun x hx => by have := h2 x hx; omega⟩
theorem live05_pure : CPure Try.prog 44 [] (.bool true) := by
  refine CPure.of_sem (k := 1) ?_
  refine CSem.body hm Try.func44 rfl (by kernel_rfl) (by kernel_rfl) (by simp [Try.ntmps44]) ?_
  have bs2 := fun (h : Heap) (y1 y2 : AV) (hy : y1.atom = true) (hz : y2.atom = true) => buildSlice_two (P := Try.prog) (h := h) (t := 24) (xt := 24) (by kernel_rfl) hy hz
  have bs3 := fun (h : Heap) (y1 y2 y3 : AV) (hy : y1.atom = true) (hz : y2.atom = true) (hu : y3.atom = true) => buildSlice_three (P := Try.prog) (h := h) (t := 24) (xt := 24) (by kernel_rfl) hy hz hu
  have bb1 := fun (h : Heap) (y : AV) (hy : y.atom = true) => buildSlice_one (P := Try.prog) (h := h) (t := 64) (xt := 64) (by kernel_rfl) hy
  have bo3 := fun (h : Heap) (y1 y2 y3 : AV) (hy : y1.atom = true) (hz : y2.atom = true) (hu : y3.atom = true) => buildSlice_three (P := Try.prog) (h := h) (t := 47) (xt := 47) (by kernel_rfl) hy hz hu
  simp [Try.f44, bs2, bs3, bb1, bo3]
  refine (enc_callS [[97], [98]] 1 (sm_small (by decide) (by decide)) (by kernel_rfl)).use ?_
  simp [f5a, rL, bs2, bs3, bb1, bo3]
  refine (rmul_call 97 142 _).use ?_
  simp [bs2, bs3, bb1, bo3]
  refine (rmul_call 98 244 _).use ?_
  have hb : ((Heap.empty.alloc [S [97], S [98]]).alloc [B8 107]).get 1 = some ([107].map B8) := Heap.get_alloc_same _ _
  have hby : bytesOfX [B8 107] = some [107] := rfl
  simp [f5p, bs2, bs3, bb1, bo3, hb, hby]
  refine (decode_callS 2 [[], [98], [107]] [false, true, true] (sm_small (by decide) (by decide)) (by decide) (by decide) (by kernel_rfl) (by kernel_rfl)).use ?_
  simp [f5b, rL, bs2, bs3, bb1, bo3]
  refine (decode_callS 2 [[97], [98], [107]] [true, false, false] (sm_small (by decide) (by decide)) (by decide) (by decide) (by kernel_rfl) (by kernel_rfl)).use ?_
  simp [f5c, rL, bs2, bs3, bb1, bo3]
  refine (repair_callS 2 [[97], [98], [107]] [true, true, false] 2 (sm_small (by decide) (by decide)) (by decide) (by decide) (by decide) (by kernel_rfl) (by kernel_rfl)).use ?_
  simp [f5d, rL, bs2, bs3, bb1, bo3]
  refine (delta_callS [[97], [98], [107]] 2 0 [99] (sm_small (by decide) (by decide)) (by decide) (by decide) (by kernel_rfl)).use ?_
  simp [f5e, rL, bs2, bs3, bb1, bo3]
  refine (enc_callS [] 1 (sm_small (by decide) (by decide)) (by kernel_rfl)).use ?_
  simp [f5f, rL, bs2, bs3, bb1, bo3]
  refine (same_call [[97], [98]] [[97], [98]] (by decide) (by kernel_rfl) (by kernel_rfl)).use ?_
  simp [f5f, rL, bs2, bs3, bb1, bo3]
  refine (is_callS 2 [[99], [98], [106]] (sm_small (by decide) (by decide)) (by kernel_rfl)).use ?_
  simp [f5g, rL, bs2, bs3, bb1, bo3]
  refine (is_callS 2 [[97], [98], [107]] (sm_small (by decide) (by decide)) (by kernel_rfl)).use ?_
  simp [f5h, rL, bs2, bs3, bb1, bo3]
  refine (is_callS 1 [[97], [98], [107]] (sm_small (by decide) (by decide)) (by kernel_rfl)).use ?_
  simp [f5i]
theorem live05_call (h : Heap) : CSem Try.prog 44 [] h fun x' h' => x' = .bool true ∧ h' = h := live05_pure.call (k := 1) (by simp)
theorem out05 (h : Heap) (K : AV → Heap → Prop) (hK : K (.bool true) h) : Call Try.prog 44 [] h K := (live05_call h).use hK
theorem small5_pure (l : Tab) (hl : l.length < 2 ^ 60) : CPure Try.prog 43 [SL l] (.bool (decide (SmallP l 14 60))) := by
  refine CPure.of_sem (k := 1) ?_
  refine CSem.body hm Try.func43 rfl (by kernel_rfl) (by kernel_rfl) (by simp [Try.ntmps43]) ?_
  simp [Try.f43]
  refine (small_call l _ _ hl _).use ?_
  simp
theorem small5_call (l : Tab) (hl : l.length < 2 ^ 60) (h : Heap) : CSem Try.prog 43 [SL l] h fun x' h' => x' = .bool (decide (SmallP l 14 60)) ∧ h' = h := (small5_pure l hl).call (k := 2) (by simp)
theorem sm_of {l : Tab} (h : SmallP l 14 60) : Sm l := ⟨by have := h.1; omega, fun x hx => by have := h.2 x hx; omega⟩

theorem rsEncodes_pure (data : Tab) (m k : Int) (hl : data.length < 2 ^ 48) (_ : ∀ x ∈ data, x.length < 2 ^ 63) (_ : (Lit.int .i64 m).wf = true) (_ : (Lit.int .i64 k).wf = true) : CPure Try.prog 16 [SL data, .int .i64 m, .int .i64 k] (.bool true) := by
  refine CPure.of_sem (k := 1) ?_
  refine CSem.body hm Try.func16 rfl (by kernel_rfl) (by kernel_rfl) (by simp [Try.ntmps16]) ?_
  simp [Try.f16]
  refine (small5_call data (by omega) _).use ?_
  by_cases h1 : SmallP data 14 60
  rotate_left
  · simp [h1]
    refine out05 _ _ ?_
    simp
  by_cases h2 : 10 < m
  · simp [h1, h2]
    refine out05 _ _ ?_
    simp
  have hs := sm_of h1
  simp [h1, h2]
  refine (enc_callS data m hs (by simp)).use ?_
  simp [rL]
  refine (renc_callS data m hs (by simp)).use ?_
  simp [rL]
  refine (same_call (encR data m).1 (encR data m).1 (by have := encR_len (data := data) (m := m); omega) (by simp) (by simp)).use ?_
  simp
  refine (is_callS k data hs (by simp)).use ?_
  simp
  refine (ris_callS k data hs (by simp)).use ?_
  simp
  refine out05 _ _ ?_
  simp
theorem rsDecodes_pure (k : Int) (l : Tab) (have_ : List Bool) (hk : (Lit.int .i64 k).wf = true) (hl : l.length < 2 ^ 48) (_ : ∀ x ∈ l, x.length < 2 ^ 63) (hh : have_.length < 2 ^ 48) : CPure Try.prog 17 [.int .i64 k, SL l, OL have_] (.bool true) := by
  refine CPure.of_sem (k := 1) ?_
  refine CSem.body hm Try.func17 rfl (by kernel_rfl) (by kernel_rfl) (by simp [Try.ntmps17]) ?_
  simp [Try.f17]
  refine (small5_call l (by omega) _).use ?_
  by_cases h1 : SmallP l 14 60
  rotate_left
  · simp [h1]
    refine out05 _ _ ?_
    simp
  by_cases h2 : (300 : Int) < have_.length
  · simp [h1, h2]
    refine out05 _ _ ?_
    simp
  have hs := sm_of h1
  simp [h1, h2]
  refine (decode_callS k l have_ hs hk hh (by simp) (by simp)).use ?_
  simp [rL]
  refine (rcheck_call k l have_ hs hk hh _).use ?_
  have he := (decD_err (k := k) (l := l) (have_ := have_)).1
  simp [he]
  by_cases hz : decE k l have_ = 0
  · obtain ⟨d, hd⟩ := decD_ok hz
    have hhl : have_.length = l.length := by
      by_cases h : DkP k l have_
      · exact h.1
      · rw [decE, if_pos h] at hz; cases hz
    have hM := hd.may
    have hdl : (d.length : Int) = k := by rw [hd.len]; have := hM.1; omega
    have hsd : Sm d := by have := decD_sm (k := k) (have_ := have_) hs; rw [hd.ok] at this; exact this
    simp [hz, hd.ok, hdl]
    refine (agrees_call d l have_ hsd hs hhl (hd.agrees hhl) (by have := hM.2.1; omega) _).use ?_
    simp
    refine out05 _ _ ?_
    simp
  · have hn := (decD_err (k := k) (l := l) (have_ := have_)).2 hz
    simp [hz, hn]
    refine out05 _ _ ?_
    simp
end Go.Proofs.Ytmpeghcilhcpjaa.X
