/-
  VolumeNil.
-/
import Derived.Test.YtjcnihmbpakipaaGreatDoorVF
namespace Go.Proofs.YtjcnihmbpakipaaGreatDoor.X
open Go.RowKit F
set_option maxRecDepth 100000
set_option linter.unusedSimpArgs false
set_option linter.unusedVariables false
theorem volumeNil_pure (n : Int) (s : Txt) (_ : (Lit.int .i64 n).wf = true) (_ : s.length < 2 ^ 63) : CPure Tryz.prog 6 [.int .i64 n, S s] (.bool true) := by
  refine CPure.of_sem (k := 1) ?_
  refine CSem.body hm Tryz.func6 rfl (by kernel_rfl) (by kernel_rfl) (by simp [Tryz.ntmps6]) ?_
  have hbd : buildX Tryz.prog 23 [(0, .int .i64 1), (1, .int .i64 1), (2, .int .i64 8), (3, .int .i64 1), (4, .int .i64 1)] = some (CfA ⟨1, 1, 8, 1, 1⟩) := by kernel_rfl
  have hb0 : buildX Tryz.prog 23 [] = some (CfA cfg0) := by kernel_rfl
  have hcmp : binX Tryz.prog .eql 23 (CfA cfg0) (CfA cfg0) = some (.bool true) := by kernel_rfl
  simp [Tryz.f6]
  refine (vread_nil n _).use ?_
  simp
  refine (vhealth_nil n _).use ?_
  simp
  refine (vmend_nil n _).use ?_
  simp
  refine (vheads_nil _).use ?_
  simp
  refine (vopen_nil n _).use ?_
  simp [hbd]
  refine (vmake_nil ⟨1, 1, 8, 1, 1⟩ 7 _).use ?_
  simp
  refine (vwrite_nil n s _).use ?_
  simp
  refine (vseq_nil _).use ?_
  simp
  refine (vconf_nil _).use ?_
  simp [hb0, hcmp]
  refine (live_call _).use ?_
  simp
end Go.Proofs.YtjcnihmbpakipaaGreatDoor.X
