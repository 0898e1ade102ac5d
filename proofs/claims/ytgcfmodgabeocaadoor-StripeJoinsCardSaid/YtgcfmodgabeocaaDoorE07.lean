/-
  Contracts: sheetpileref13.Split.
-/
import Derived.Test.YtgcfmodgabeocaaDoorE06
namespace Go.Proofs.YtgcfmodgabeocaaDoor.X
open Go.RowKit F
set_option maxRecDepth 100000
set_option linter.unusedSimpArgs false
set_option linter.unusedVariables false

theorem bytes_zeros (z : Nat) : bytesOfX (List.replicate z (B8 0)) = some (List.replicate z 0) := by rw [← List.map_replicate, bytesOfX_map]
theorem rsplit_fresh (c : Cfg) (data : List UInt8) (hd : data.length < 2 ^ 47) : FreshL Tryd.prog 11 [CfA c, S data] (splR c data).1 (splR c data).2 := by
  refine CSem.body hm Tryd.func11 rfl (by kernel_rfl) (by kernel_rfl) (by simp [Tryd.ntmps11]) ?_
  simp [Tryd.f11, CfA, AV.cells, loadX_agg, takeN, Heap.get_alloc]
  refine (rconfCheck_call c _).use ?_
  by_cases hC : ConfP c
  rotate_left
  · simp [hC, splR, FrQ.nil]
  simp [hC, CfA, AV.cells, loadX_agg, takeN, Heap.get_alloc]
  refine (rconfCap_call c _).use ?_
  by_cases hcap : confCap c < data.length
  · simp [hC, hcap, splR, FrQ.nil]
  have hcv : confCap c = c.k * c.sh - 4 := by simp [confCap, hC]
  have hC' := hC
  obtain ⟨ck, cm, csh, cst, csl⟩ := c
  obtain ⟨hG, hm0, ⟨hs8, hs1024⟩, _, _, h4000⟩ := hC
  have hk1 := hG.1
  have hk255 := hG.2.2.1
  simp only at hG hm0 hs8 hs1024 h4000 hk1 hk255 hcv
  obtain ⟨K, rfl⟩ := Int.eq_ofNat_of_zero_le (show 0 ≤ ck by omega)
  obtain ⟨Z, rfl⟩ := Int.eq_ofNat_of_zero_le (show 0 ≤ csh by omega)
  obtain ⟨N, hN⟩ : ∃ N, N = K * Z := ⟨_, rfl⟩
  have hNi : (K : Int) * (Z : Int) = (N : Int) := by rw [hN]; push_cast; rfl
  have hcap2 : ¬ ((N : Int) - 4 < data.length) := by rw [hcv, hNi] at hcap; exact hcap
  rw [hNi] at h4000
  have hspl : splR ⟨K, cm, Z, cst, csl⟩ data = encR (chunks K Z (stext N data)) cm := by
    unfold splR
    rw [if_pos hC', if_neg hcap]
    show encR (splL _ data) cm = _
    unfold splL
    rw [hN]
    rfl
  rw [hspl]
  have hdl : data.length < 2 ^ 32 := by omega
  have ht : (stext N data).length = K * Z := by rw [← hN]; exact stext_len (by omega)
  have hbl : 4 + data.length ≤ 140737488355328 := by omega
  have hput : (putR data.length 4).1 = le data.length 4 := by
    have := put4 hdl
    simp only [putA, AV.tup.injEq, List.cons.injEq, S, AV.str.injEq, ByteArray.mk.injEq] at this
    have h1 := this.1
    simpa using congrArg Array.toList h1
  simp [hcap]
  refine (rsure_call _ _ (by omega) _).use ?_
  rw [hput]
  obtain ⟨z, hz⟩ : ∃ z, N = 4 + data.length + z := ⟨N - (4 + data.length), by omega⟩
  have hst : stext N data = (le data.length 4 ++ data) ++ List.replicate z 0 := by
    simp only [stext]
    rw [show N - 4 - data.length = z by omega]
  have hzw : IntKind.i64.wrap (IntKind.i64.wrap ((K : Int) * Z) - (4 + (data.length : Int))) = (z : Int) := by
    rw [hNi, wrap64 (n := (N : Int)) (by omega) (by omega), wrap64 (by omega) (by omega)]; omega
  have hz47 : (z : Int) ≤ 140737488355328 := by omega
  have hz0 : (0 : Int) ≤ z := by omega
  have hlen2 : 4 + (data.length + z) ≤ 140737488355328 := by omega
  have hlen3 : 4 + data.length + z ≤ 140737488355328 := by omega
  simp [hbl, fieldAddrX, Heap.get_alloc, hzw, hz47, hz0, replicate_B8, hlen2, hlen3, bytes_zeros]
  have hst2 : le data.length 4 ++ (data ++ List.replicate z 0) = stext N data := by rw [hst, List.append_assoc]
  rw [hst2]
  generalize hT : stext N data = T at *
  refine wpc_loop (fun (i : Nat) r h => i ≤ K ∧ rg r 2 = .ptr 0 0 ∧ rg r 7 = S T ∧ rg r 9 = .int .i64 (i : Int) ∧ h.get 0 = some [.int .i64 (K : Int), .int .i64 cm, .int .i64 (Z : Int), .int .i64 cst, .int .i64 csl] ∧
    Own h (rg r 8) (chT Z T i) ∧ 1 ≤ h.next ∧ ∀ b off n c z, rg r 8 = .sl b off n c z → 1 ≤ b) (K - ·) ?_ 0 ?_
  · rintro i r h ⟨hi, g2, g7, g9, k0, ho, hn1, hb1⟩
    rcases Nat.lt_or_eq_of_le hi with hlt | heq
    · obtain ⟨p, hp⟩ : ∃ p, p = i * Z := ⟨_, rfl⟩
      have hpi : (i : Int) * (Z : Int) = (p : Int) := by rw [hp]; push_cast; rfl
      have hps : p + Z ≤ N := by
        have : (i + 1) * Z ≤ K * Z := Nat.mul_le_mul_right _ hlt
        rw [Nat.add_mul, Nat.one_mul] at this
        omega
      have hw1 : IntKind.i64.wrap ((i : Int) * (Z : Int)) = (p : Int) := by rw [hpi]; exact wrap64 (by omega) (by omega)
      have hw2 : IntKind.i64.wrap (((i : Int) + 1) * (Z : Int)) = ((p + Z : Nat) : Int) := by
        rw [Int.add_mul, Int.one_mul, hpi, wrap64 (by omega) (by omega)]; omega
      have htN : T.length = N := by rw [ht, hN]
      have htn : ((p : Int) + (Z : Int)).toNat = p + Z := by omega
      have hch : (T.take (p + Z)).drop p = chunk Z T i := by
        simp only [chunk]
        rw [← hp, List.drop_take, show p + Z - p = Z by omega]
      have hio : (chT Z T i).length < 2 ^ 40 := by rw [chT_len]; omega
      obtain ⟨x', H3, e, ho', hnx, ⟨hat, hxq⟩, hk3⟩ := append_own (P := Tryd.prog) (t := 26) (xt := 26) (h := h) (by kernel_rfl) ho hio (S_atom (chunk Z T i))
      simp [g2, g7, g9, k0, hlt, fieldAddrX, hw1, wrap64 (n := (i : Int) + 1) (by omega) (by omega), hw2]
      refine ⟨⟨by omega, by omega⟩, by omega, ?_⟩
      rw [htn, hch]
      simp [buildSlice_one (P := Tryd.prog) (t := 26) (xt := 26) (by kernel_rfl), e, g2, g7, g9, wrap64 (n := (i : Int) + 1) (by omega) (by omega)]
      rw [chT_succ] at ho'
      exact ⟨i + 1, by omega, by omega, by omega, hk3 _ _ k0 (fun off n c z e => by have := hb1 _ _ _ _ _ e; omega), ho', by omega, fun b off n c z e => by have := hxq _ _ _ _ _ e; omega⟩
    · subst heq
      simp [g2, g7, g9, k0, fieldAddrX]
      have hsn : X.snap h true 2 (rg r 8) = some (SL (chunks i Z T)) := Own.snap (h := h) (f := S) (l := chunks i Z T) ho (fun _ => rfl)
      refine ((renc_fresh (chunks i Z T) cm (chunks_sm (by omega) (by omega))).call (k := 2) (by simp [hsn])).then ?_
      rintro _ _ ⟨rfl, rfl⟩
      obtain ⟨y, ey, _, _, _, hfr⟩ := own_of h (encR (chunks i Z T) cm).1 (encR (chunks i Z T) cm).2
      simp [ey, hfr]
  · exact ⟨by omega, by simp, by simp, by simp, by simp [Heap.get_alloc], .inl ⟨by simp, rfl⟩, by simp, by simp⟩
theorem rsplit_callS (c : Cfg) (data : List UInt8) (hd : data.length < 2 ^ 47) (h : Heap) : CSem Tryd.prog 11 [CfA c, S data] h fun x' h' => x' = rL (splR c data).1 (splR c data).2 ∧ h' = h :=
  (rsplit_fresh c data hd).pure.call (k := 2) (by simp [CfA])
end Go.Proofs.YtgcfmodgabeocaaDoor.X
