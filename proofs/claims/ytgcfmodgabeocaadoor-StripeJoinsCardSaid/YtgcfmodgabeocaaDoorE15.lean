/-
  StripeSizes.
-/
import Derived.Test.YtgcfmodgabeocaaDoorE14
namespace Go.Proofs.YtgcfmodgabeocaaDoor.X
open Go.RowKit F
set_option maxRecDepth 100000
set_option linter.unusedSimpArgs false
set_option linter.unusedVariables false

theorem conf_nat {c : Cfg} (hC : ConfP c) : (c.k.toNat : Int) = c.k ∧ (c.m.toNat : Int) = c.m ∧ (c.sh.toNat : Int) = c.sh ∧ 1 ≤ c.k.toNat ∧ c.k.toNat ≤ 255 ∧ 8 ≤ c.sh.toNat ∧ c.sh.toNat ≤ 1024 ∧ c.m.toNat ≤ 255 := by
  have h := hC.1
  have h1 := h.1; have h2 := h.2.1; have h3 := h.2.2.1; have h4 := h.2.2.2; have h5 := hC.2.2.1
  omega
theorem cap_nat {c : Cfg} (hC : ConfP c) : confCap c = ((c.k.toNat * c.sh.toNat : Nat) : Int) - 4 := by
  have h := conf_nat hC
  simp only [confCap, if_pos hC]
  push_cast
  rw [h.1, h.2.2.1]
theorem splL_len {c : Cfg} {data : List UInt8} : (splL c data).length = c.k.toNat := chunks_len
theorem splL_rows {c : Cfg} {data : List UInt8} (hC : ConfP c) (hcap : ¬ confCap c < data.length) : ∀ x ∈ splL c data, x.length = c.sh.toNat := by
  intro x hx
  obtain ⟨i, hi, rfl⟩ := List.mem_map.1 hx
  rw [cap_nat hC] at hcap
  exact chunk_len (stext_len (by omega)) (List.mem_range.1 hi)
theorem spl_ok {c : Cfg} {data : List UInt8} (hC : ConfP c) (hcap : ¬ confCap c < data.length) : EncP (splL c data) c.m ∧ splR c data = (encL (splL c data) c.m.toNat, 0) := by
  have hn := conf_nat hC
  have hE : EncP (splL c data) c.m := ⟨by rw [splL_len, hn.1]; exact hC.1, even_of (splL_rows hC hcap)⟩
  refine ⟨hE, ?_⟩
  simp only [splR, if_pos hC, if_neg hcap, encR, if_pos hE]
theorem spl_ne {c : Cfg} {data : List UInt8} (hC : ConfP c) : splL c data ≠ [] := fun e => by
  have h1 := splL_len (c := c) (data := data)
  rw [e] at h1
  have := (conf_nat hC).2.2.2.1
  simp at h1; omega
theorem spl_row0 {c : Cfg} {data : List UInt8} (hC : ConfP c) (hcap : ¬ confCap c < data.length) : (row0 (splL c data)).length = c.sh.toNat := by
  have hne := spl_ne (data := data) hC
  cases hl : splL c data with
  | nil => exact (hne hl).elim
  | cons a t =>
    have := splL_rows hC hcap a (by rw [hl]; simp)
    simpa [row0] using this
theorem enc_rows {c : Cfg} {data : List UInt8} (hC : ConfP c) (hcap : ¬ confCap c < data.length) : ∀ x ∈ encL (splL c data) c.m.toNat, x.length = c.sh.toNat := by
  intro x hx
  rw [encL_row (spl_ne hC) (spl_ok hC hcap).1.2 x hx, spl_row0 hC hcap]
theorem enc_is {c : Cfg} {data : List UInt8} (hC : ConfP c) (hcap : ¬ confCap c < data.length) : IsP c.k (encL (splL c data) c.m.toNat) := by
  have hn := conf_nat hC
  have hE := (spl_ok hC hcap).1
  have hl : (encL (splL c data) c.m.toNat).length = c.k.toNat + c.m.toNat := by rw [encL_len, splL_len]
  refine ⟨by omega, by rw [hl]; push_cast; omega, even_of (enc_rows hC hcap), ?_⟩
  have ht : (encL (splL c data) c.m.toNat).take c.k.toNat = splL c data := by
    have := encL_data (m := c.m.toNat) (spl_ne (data := data) hC) hE.2
    rwa [splL_len] at this
  rw [ht, hl, show ((c.k.toNat + c.m.toNat : Nat) : Int) - c.k = c.m by push_cast; omega]
  simp only [encR, if_pos hE]
theorem enc_small {c : Cfg} {data : List UInt8} (hC : ConfP c) (hcap : ¬ confCap c < data.length) : Sm (encL (splL c data) c.m.toNat) := by
  have hn := conf_nat hC
  refine ⟨by rw [encL_len, splL_len]; omega, fun x hx => by rw [enc_rows hC hcap x hx]; omega⟩
theorem stripeSizes_pure (c : Cfg) (data : List UInt8) (_ : CfW c) (hd : data.length < 2 ^ 63) : CPure Tryd.prog 6 [CfA c, S data] (.bool true) := by
  refine CPure.of_sem (k := 1) ?_
  refine CSem.body hm Tryd.func6 rfl (by kernel_rfl) (by kernel_rfl) (by simp [Tryd.ntmps6]) ?_
  simp [Tryd.f6, CfA, AV.cells, loadX_agg, takeN, Heap.get_alloc]
  refine (tiny_call c _).use ?_
  by_cases hT : TinyP c
  rotate_left
  · simp [hT]
    refine out13 _ _ ?_
    simp
  simp [hT, CfA, AV.cells, loadX_agg, takeN, Heap.get_alloc]
  refine (rconfCheck_call c _).use ?_
  by_cases hC : ConfP c
  rotate_left
  · simp [hC]
    refine out13 _ _ ?_
    simp
  simp [hC, CfA, AV.cells, loadX_agg, takeN, Heap.get_alloc]
  refine (rconfCap_call c _).use ?_
  by_cases hcap : confCap c < data.length
  · simp [hcap]
    refine out13 _ _ ?_
    simp
  have hn := conf_nat hC
  simp [hcap, CfA, AV.cells, loadX_agg, takeN, Heap.get_alloc]
  have hcn := cap_nat hC
  have hKZ : c.k.toNat * c.sh.toNat ≤ 255 * 1024 := Nat.mul_le_mul hn.2.2.2.2.1 hn.2.2.2.2.2.2.1
  refine (split_callS c data (by omega) _).use ?_
  rw [(spl_ok hC hcap).2]
  have hl : (encL (splL c data) c.m.toNat).length = c.k.toNat + c.m.toNat := by rw [encL_len, splL_len]
  have hrows := enc_rows hC hcap
  have his := enc_is hC hcap
  have hsm := enc_small hC hcap
  generalize encL (splL c data) c.m.toNat = l at hl hrows his hsm
  have hkm : IntKind.i64.wrap (c.k + c.m) = (l.length : Int) := by rw [wrap64 (by omega) (by omega), hl]; push_cast; omega
  simp [rL, fieldAddrX, Heap.get_alloc, hkm]
  refine wpc_loop (fun (i : Nat) r hp => i ≤ l.length ∧ rg r 2 = .ptr 0 0 ∧ rg r 5 = SL l ∧ rg r 7 = .int .i64 (i : Int) ∧ hp.get 0 = some [.int .i64 c.k, .int .i64 c.m, .int .i64 c.sh, .int .i64 c.st, .int .i64 c.sl]) (l.length - ·) ?_ 0 ?_
  · rintro i r hp ⟨hi, g2, g5, g7, k0⟩
    rcases Nat.lt_or_eq_of_le hi with hlt | heq
    · have hx := hrows _ (List.getElem_mem hlt)
      have hxi : (l[i].length : Int) = c.sh := by rw [hx]; exact hn.2.2.1
      have hnext : IntKind.i64.wrap ((i : Int) + 1) = (i : Int) + 1 := wrap64 (by omega) (by omega)
      simp [g2, g5, g7, hlt]
      refine wpc_draw 8 (by kernel_rfl) ?_
      simp [g2, g5, g7, hlt, fieldAddrX, k0, hxi, hnext]
      exact ⟨i + 1, by omega, by omega, by push_cast; rfl⟩
    · subst heq
      simp [g2, g5, g7, fieldAddrX, k0]
      refine (ris_callS c.k l hsm (by simp)).use ?_
      simp [his]
      refine out13 _ _ ?_
      simp
  · exact ⟨by omega, by simp, by simp, by simp, by simp [Heap.get_alloc]⟩
end Go.Proofs.YtgcfmodgabeocaaDoor.X
