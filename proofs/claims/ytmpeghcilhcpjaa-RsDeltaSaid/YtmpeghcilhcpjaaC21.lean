/-
  The law GenMakes.
-/
import Derived.Test.YtmpeghcilhcpjaaC20
namespace Go.Proofs.Ytmpeghcilhcpjaa.X
open Go.RowKit F
set_option maxRecDepth 100000
set_option linter.unusedSimpArgs false
set_option linter.unusedVariables false

@[simp] theorem binX_bool {P : Program} {t : TypeId} (ht : P.underlying t = some .bool) {a b : Bool} : binX P .eql t (.bool a) (.bool b) = some (.bool (decide (a = b))) := by
  simp [binX, eqX, ht, tyK, AV.cls]
  rw [Bool.eq_iff_iff]; simp
theorem genMakes_pure (k m : Int) (hk : (Lit.int .i64 k).wf = true) (hm' : (Lit.int .i64 m).wf = true) : CPure Try.prog 3 [.int .i64 k, .int .i64 m] (.bool true) := by
  refine CPure.of_sem (k := 1) ?_
  refine CSem.body hm Try.func3 rfl (by kernel_rfl) (by kernel_rfl) (by simp [Try.ntmps3]) ?_
  simp [Try.f3]
  refine (rgmay_call _ _ _).use ?_
  have tail : True := trivial
  by_cases hM : GMay k m
  · have hkm : IntKind.i64.wrap (k + m) = k + m := wrap64 (by have := hM.1; have := hM.2.1; omega) (by have := hM.2.2; omega)
    by_cases h40 : (40 : Int) < k + m
    · simp [hM, hkm, h40]
      refine (gmay_call _ _ _).use ?_
      simp [hM]
      refine (live04_call _).use ?_
      simp
    · simp [hM, hkm, h40]
      refine (gen_call _ _ _).use ?_
      simp [rL]
      refine (rgen_call _ _ _).use ?_
      simp [rL]
      have hl : (genR k m).1.length < 2 ^ 60 := by
        simp [genR, hM, genL, identL]
        have := hM.1
        have := hM.2.2
        omega
      refine (same_call (genR k m).1 (genR k m).1 hl (by simp) (by simp)).use ?_
      simp
      refine (gmay_call _ _ _).use ?_
      simp
      refine (rgmay_call _ _ _).use ?_
      simp
      refine (live04_call _).use ?_
      simp
  · simp [hM]
    refine (gen_call _ _ _).use ?_
    simp [rL]
    refine (rgen_call _ _ _).use ?_
    simp [rL]
    have hl : (genR k m).1.length < 2 ^ 60 := by simp [genR, hM]
    refine (same_call (genR k m).1 (genR k m).1 hl (by simp) (by simp)).use ?_
    simp
    refine (gmay_call _ _ _).use ?_
    simp
    refine (rgmay_call _ _ _).use ?_
    simp
    refine (live04_call _).use ?_
    simp
end Go.Proofs.Ytmpeghcilhcpjaa.X
