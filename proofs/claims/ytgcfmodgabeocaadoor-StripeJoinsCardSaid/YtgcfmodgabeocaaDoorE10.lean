/-
  Contracts: stripe.Join.
-/
import Derived.Test.YtgcfmodgabeocaaDoorE09
import Derived.Test.YtgcfmodgabeocaaDoorD06
namespace Go.Proofs.YtgcfmodgabeocaaDoor.X
open Go.RowKit F
set_option maxRecDepth 100000
set_option linter.unusedSimpArgs false
set_option linter.unusedVariables false

/-- All that are there are of one size. -/
def SzP (sh : Int) (l : Tab) (have_ : List Bool) : Prop := ∀ p ∈ l.zip have_, p.2 = true → (p.1.length : Int) = sh
instance (sh : Int) (l : Tab) (have_ : List Bool) : Decidable (SzP sh l have_) := by unfold SzP; exact inferInstance
/-- A text out of its shards. -/
def txtD (d : Tab) : List UInt8 × Int :=
  if ((cutR d.flatten 4).2.1.length : Int) < (cutR d.flatten 4).1 then ([], 5)
  else if ∀ b ∈ (cutR d.flatten 4).2.1.drop (cutR d.flatten 4).1.toNat, b = 0 then ((cutR d.flatten 4).2.1.take (cutR d.flatten 4).1.toNat, 0) else ([], 5)
def joinR (c : Cfg) (l : Tab) (have_ : List Bool) : List UInt8 × Int :=
  if ¬ ConfP c then ([], 1) else if (l.length : Int) ≠ c.k + c.m then ([], 1) else if decE c.k l have_ = 1 then ([], 1) else if ¬ SzP c.sh l have_ then ([], 1)
  else if decE c.k l have_ ≠ 0 then ([], decE c.k l have_) else txtD (decD c.k l have_).1
def joinA (c : Cfg) (l : Tab) (have_ : List Bool) : AV := .tup [S (joinR c l have_).1, .int .i64 (joinR c l have_).2]
theorem cutR_nn (s : List UInt8) (n : Int) : 0 ≤ (cutR s n).1 ∧ (cutR s n).1 < 72057594037927936 := by
  unfold cutR
  split
  · rename_i hP
    split
    · exact ⟨by simp, by simp⟩
    · have : unle (s.take n.toNat) < 72057594037927936 := unle_small (by simp; have := hP.2; omega)
      simp
      omega
  · exact ⟨by simp, by simp⟩
theorem szP_iff {sh : Int} {l : Tab} {have_ : List Bool} (hh : have_.length = l.length) : SzP sh l have_ ↔ ∀ i (h : i < l.length), have_[i]? = some true → (l[i].length : Int) = sh := by
  constructor
  · intro h i hi hb
    refine h (l[i], true) ?_ rfl
    obtain ⟨hi2, hb2⟩ := List.getElem?_eq_some_iff.1 hb
    rw [List.mem_iff_getElem]
    exact ⟨i, by simp; omega, by simp [hb2]⟩
  · intro h p hp hb
    obtain ⟨i, hi, rfl⟩ := List.mem_iff_getElem.1 hp
    simp at hi hb ⊢
    exact h i (by omega) (by rw [List.getElem?_eq_getElem (by omega), hb])
theorem sjoin_pure (c : Cfg) (l : Tab) (have_ : List Bool) (h : Sm l) (hk : (Lit.int .i64 c.k).wf = true) (hh : have_.length < 2 ^ 48) (hfl : (decD c.k l have_).1.flatten.length < 2 ^ 46) :
    CPure Tryd.prog 14 [CfA c, SL l, OL have_] (joinA c l have_) := by
  refine CPure.of_sem (k := 2) ?_
  refine CSem.body hm Tryd.func14 rfl (by kernel_rfl) (by kernel_rfl) (by simp [Tryd.ntmps14]) ?_
  simp [Tryd.f14, CfA, AV.cells, loadX_agg, takeN, Heap.get_alloc]
  refine (confCheck_call c _).use ?_
  by_cases hC : ConfP c
  rotate_left
  · simp [hC, joinA, joinR]
  simp [hC, CfA, AV.cells, loadX_agg, takeN, Heap.get_alloc]
  refine (confDisks_call c _).use ?_
  have hdk : confDisks c = c.k + c.m := by simp [confDisks, hC]
  rw [hdk]
  by_cases h1 : (l.length : Int) = c.k + c.m
  rotate_left
  · simp [h1, hC, joinA, joinR]
  simp [h1, fieldAddrX, Heap.get_alloc]
  refine (decode_callS c.k l have_ h hk hh (by simp) (by simp)).use ?_
  have he := (decD_err (k := c.k) (l := l) (have_ := have_)).1
  simp [rL, he]
  by_cases h2 : decE c.k l have_ = 1
  · simp [h1, h2, hC, joinA, joinR]
  have hD : DkP c.k l have_ := by
    by_cases hD : DkP c.k l have_
    · exact hD
    · exact (h2 (by rw [decE, if_pos hD])).elim
  have hhl := hD.1
  have hl40 := h.1
  simp [h2]
  refine wpc_loop (fun (i : Nat) r hp => i ≤ l.length ∧ rg r 2 = OL have_ ∧ rg r 3 = .ptr 0 0 ∧ rg r 9 = SL (decD c.k l have_).1 ∧ rg r 10 = .int .i64 (decE c.k l have_) ∧ rg r 37 = SL l ∧ rg r 38 = .int .i64 (l.length : Int) ∧ rg r 39 = .int .i64 (i : Int) ∧
    hp.get 0 = some [.int .i64 c.k, .int .i64 c.m, .int .i64 c.sh, .int .i64 c.st, .int .i64 c.sl] ∧ ∀ j (hj : j < l.length), j < i → have_[j]? = some true → (l[j].length : Int) = c.sh) (l.length - ·) ?_ 0 ?_
  · rintro i r hp ⟨hi, g2, g3, g9, g10, g37, g38, g39, k0, hok⟩
    rcases Nat.lt_or_eq_of_le hi with hlt | heq
    · have hb : have_[i]? = some have_[i] := List.getElem?_eq_getElem (by omega)
      have hih : i < have_.length := by omega
      have hnext : IntKind.i64.wrap ((i : Int) + 1) = (i : Int) + 1 := wrap64 (by omega) (by omega)
      by_cases hbi : have_[i] = true
      · by_cases hsz : (l[i].length : Int) = c.sh
        · simp [g2, g3, g37, g38, g39, hlt, hih, hbi, hsz, fieldAddrX, k0, hnext]
          refine ⟨i + 1, by omega, by omega, g9, g10, by push_cast; rfl, fun j hj hji hbj => ?_⟩
          rcases Nat.lt_or_eq_of_le (Nat.lt_succ_iff.1 hji) with h5 | h5
          · exact hok j hj h5 hbj
          · subst h5; exact hsz
        · have hnz : ¬ SzP c.sh l have_ := fun hz => hsz ((szP_iff hhl).1 hz i hlt (by rw [hb, hbi]))
          have hres : joinA c l have_ = .tup [S [], .int .i64 1] := by simp [joinA, joinR, hC, h1, h2, hnz]
          simp [g2, g3, g37, g38, g39, hlt, hih, hbi, hsz, fieldAddrX, k0, hres]
      · have hbf : have_[i] = false := by simpa using hbi
        simp [g2, g3, g37, g38, g39, hlt, hih, hbf, hnext]
        refine ⟨i + 1, by omega, by omega, g9, g10, by push_cast; rfl, k0, fun j hj hji hbj => ?_⟩
        rcases Nat.lt_or_eq_of_le (Nat.lt_succ_iff.1 hji) with h5 | h5
        · exact hok j hj h5 hbj
        · subst h5; rw [hb, hbf] at hbj; cases hbj
    · subst heq
      have hz : SzP c.sh l have_ := (szP_iff hhl).2 (fun j hj hbj => hok j hj hj hbj)
      by_cases h3 : decE c.k l have_ = 0
      rotate_left
      · have hres : joinA c l have_ = .tup [S [], .int .i64 (decE c.k l have_)] := by simp [joinA, joinR, hC, h1, h2, hz, h3]
        simp [g2, g3, g9, g10, g37, g38, g39, h3, hres]
      simp [g2, g3, g9, g10, g37, g38, g39, h3]
      have hjl : (Lib.join (decD c.k l have_).1 []).length ≤ 140737488355328 := by rw [join_empty]; omega
      have hdm : (decD c.k l have_).1.length < 2 ^ 40 := (decD_sm h).1
      refine (join_callS (decD c.k l have_).1 [] hdm hjl (by simp)).use ?_
      rw [join_empty]
      simp
      refine (cut_call _ _ (by omega) _).use ?_
      have hcn := cutR_nn (decD c.k l have_).1.flatten 4
      have hres : joinR c l have_ = txtD (decD c.k l have_).1 := by simp [joinR, hC, h1, h2, hz, h3]
      have hrl : (cutR (decD c.k l have_).1.flatten 4).2.1.length < 2 ^ 46 := by
        unfold cutR
        split
        · split
          · simp
          · show ((decD c.k l have_).1.flatten.drop _).length < _
            rw [List.length_drop]; omega
        · simp
      rw [joinA, hres, txtD]
      simp only [cutA]
      generalize (cutR (decD c.k l have_).1.flatten 4).1 = n at hcn
      generalize (cutR (decD c.k l have_).1.flatten 4).2.1 = rest at hrl
      generalize (cutR (decD c.k l have_).1.flatten 4).2.2 = ee
      obtain ⟨N, rfl⟩ := Int.eq_ofNat_of_zero_le hcn.1
      by_cases h5 : rest.length < N
      · simp [g2, g3, g9, g10, h5]
      simp [g2, g3, g9, g10, h5, sliceX_S, show N ≤ rest.length by omega]
      refine (trim_call (rest.drop N) (by simp; omega) _).use ?_
      by_cases h6 : ∀ b ∈ rest.drop N, b = 0
      · have h7 := (trim_nil (rest.drop N)).2 h6
        simp [g2, g3, g9, g10, h5, sliceX_S, show N ≤ rest.length by omega, h7]
        rw [if_pos h6]
        simp
      · have h7 : ¬ trimL 0 (trimR 0 (rest.drop N)) = [] := fun e => h6 ((trim_nil _).1 e)
        simp [g2, g3, g9, g10, h5, sliceX_S, show N ≤ rest.length by omega, h7]
        rw [if_neg h6]
        simp
  · exact ⟨by omega, by simp, by simp, by simp, by simp, by simp, by simp, by simp, by simp [Heap.get_alloc], fun j _ h => by omega⟩
end Go.Proofs.YtgcfmodgabeocaaDoor.X
