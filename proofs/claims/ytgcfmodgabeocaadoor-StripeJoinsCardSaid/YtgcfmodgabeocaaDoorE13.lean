/-
  Contracts: sheetpileref13.Check.
-/
import Derived.Test.YtgcfmodgabeocaaDoorE12
import Derived.Test.YtgcfmodgabeocaaDoorC27
namespace Go.Proofs.YtgcfmodgabeocaaDoor.X
open Go.RowKit F
set_option maxRecDepth 100000
set_option linter.unusedSimpArgs false
set_option linter.unusedVariables false

def joinE (c : Cfg) (l : Tab) (have_ : List Bool) : Int :=
  if ¬ ConfP c then 1 else if (l.length : Int) ≠ c.k + c.m then 1 else if decE c.k l have_ = 1 then 1 else if ¬ SzP c.sh l have_ then 1 else decE c.k l have_
theorem r13check_pure (c : Cfg) (l : Tab) (have_ : List Bool) (h : Sm l) (hk : (Lit.int .i64 c.k).wf = true) (hh : have_.length < 2 ^ 48) :
    CPure Tryd.prog 15 [CfA c, SL l, OL have_] (.int .i64 (joinE c l have_)) := by
  refine CPure.of_sem (k := 2) ?_
  refine CSem.body hm Tryd.func15 rfl (by kernel_rfl) (by kernel_rfl) (by simp [Tryd.ntmps15]) ?_
  simp [Tryd.f15, CfA, AV.cells, loadX_agg, takeN, Heap.get_alloc]
  refine (rconfCheck_call c _).use ?_
  by_cases hC : ConfP c
  rotate_left
  · simp [hC, joinE]
  have hG := hC.1
  have hkm : IntKind.i64.wrap (c.k + c.m) = c.k + c.m := wrap64 (by have := hG.1; have := hG.2.1; omega) (by have := hG.2.2; omega)
  simp [hC, fieldAddrX, Heap.get_alloc, hkm]
  by_cases h1 : (l.length : Int) = c.k + c.m
  rotate_left
  · simp [h1, hC, joinE]
  simp [h1, fieldAddrX, Heap.get_alloc]
  refine (rcheck_call c.k l have_ h hk hh _).use ?_
  by_cases h2 : decE c.k l have_ = 1
  · simp [h1, h2, hC, joinE]
  have hD : DkP c.k l have_ := by
    by_cases hD : DkP c.k l have_
    · exact hD
    · exact (h2 (by rw [decE, if_pos hD])).elim
  have hhl := hD.1
  have hl40 := h.1
  simp [h2]
  refine wpc_loop (fun (i : Nat) r hp => i ≤ l.length ∧ rg r 1 = SL l ∧ rg r 2 = OL have_ ∧ rg r 3 = .ptr 0 0 ∧ rg r 7 = .int .i64 (decE c.k l have_) ∧ rg r 8 = .int .i64 (i : Int) ∧
    hp.get 0 = some [.int .i64 c.k, .int .i64 c.m, .int .i64 c.sh, .int .i64 c.st, .int .i64 c.sl] ∧ ∀ j (hj : j < l.length), j < i → have_[j]? = some true → (l[j].length : Int) = c.sh) (l.length - ·) ?_ 0 ?_
  · rintro i r hp ⟨hi, g1, g2, g3, g7, g8, k0, hok⟩
    rcases Nat.lt_or_eq_of_le hi with hlt | heq
    · have hb : have_[i]? = some have_[i] := List.getElem?_eq_getElem (by omega)
      have hih : i < have_.length := by omega
      have hnext : IntKind.i64.wrap ((i : Int) + 1) = (i : Int) + 1 := wrap64 (by omega) (by omega)
      simp [g1, g2, g3, g7, g8, hlt]
      refine wpc_draw 14 (by kernel_rfl) ?_
      by_cases hbi : have_[i] = true
      · by_cases hsz : (l[i].length : Int) = c.sh
        · simp [g1, g2, g3, g7, g8, hlt, hih, hbi, hsz, fieldAddrX, k0, hnext]
          refine ⟨i + 1, by omega, by omega, by push_cast; rfl, fun j hj hji hbj => ?_⟩
          rcases Nat.lt_or_eq_of_le (Nat.lt_succ_iff.1 hji) with h5 | h5
          · exact hok j hj h5 hbj
          · subst h5; exact hsz
        · have hnz : ¬ SzP c.sh l have_ := fun hz => hsz ((szP_iff hhl).1 hz i hlt (by rw [hb, hbi]))
          have hres : joinE c l have_ = 1 := by simp [joinE, hC, h1, h2, hnz]
          simp [g1, g2, g3, g7, g8, hlt, hih, hbi, hsz, fieldAddrX, k0, hres]
      · have hbf : have_[i] = false := by simpa using hbi
        simp [g1, g2, g3, g7, g8, hlt, hih, hbf, hnext]
        refine ⟨i + 1, by omega, by omega, by push_cast; rfl, k0, fun j hj hji hbj => ?_⟩
        rcases Nat.lt_or_eq_of_le (Nat.lt_succ_iff.1 hji) with h5 | h5
        · exact hok j hj h5 hbj
        · subst h5; rw [hb, hbf] at hbj; cases hbj
    · subst heq
      have hz : SzP c.sh l have_ := (szP_iff hhl).2 (fun j hj hbj => hok j hj hj hbj)
      have hres : joinE c l have_ = decE c.k l have_ := by simp [joinE, hC, h1, h2, hz]
      simp [g1, g2, g3, g7, g8, hres]
  · exact ⟨by omega, by simp, by simp, by simp, by simp, by simp, by simp [Heap.get_alloc], fun j _ h => by omega⟩
theorem r13check_call (c : Cfg) (l : Tab) (have_ : List Bool) (h : Sm l) (hk : (Lit.int .i64 c.k).wf = true) (hh : have_.length < 2 ^ 48) (hp : Heap) :
    CSem Tryd.prog 15 [CfA c, SL l, OL have_] hp fun x' h' => x' = .int .i64 (joinE c l have_) ∧ h' = hp := (r13check_pure c l have_ h hk hh).call (k := 2) (by simp [CfA])
end Go.Proofs.YtgcfmodgabeocaaDoor.X
