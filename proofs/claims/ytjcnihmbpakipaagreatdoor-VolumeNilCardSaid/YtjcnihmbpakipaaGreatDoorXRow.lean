/-
  Rows: what comes into a law, read as plain lists.
-/
import Derived.Test.YtjcnihmbpakipaaGreatDoorXB
import Derived.SizedLaws
import Derived.SliceStrings
import Derived.ChangeSlices
import Derived.Deep.Grids
import Derived.Carry
import Derived.ShutString
import Derived.OpenShut
import Derived.ChangeArms
namespace Go.Proofs.YtjcnihmbpakipaaGreatDoor.X
open Go.RowKit Go.ChangeShapes Go.WideShapes Go.ChangeShapes Go.Deep 
set_option linter.unusedVariables false
section
variable {H : Type} {enc : TypeId × Value → H} {P : Program} {W : World}

variable {ts : List TypeId} {ds : List (DataW H)} {j : Nat} {t e : TypeId} {v : Value} {d : DataW H} {p : List MemPlace}

theorem vr_S {I : Nat → Prop} {ρ : BMap} (s : ByteArray) : VR W I ρ (S s.data.toList) (.string s) := by
  have e1 : (⟨s.data.toList.toArray⟩ : ByteArray) = s := by simp
  have := VR.str (w := W) (I := I) (ρ := ρ) ⟨s.data.toList.toArray⟩
  rw [e1] at this
  exact this
theorem len_S {s : ByteArray} (h : s.size ≤ maxLen) : s.data.toList.length < 2 ^ 63 := by
  rw [Array.length_toList]
  have h2 : s.data.size ≤ maxLen := h
  have : maxLen = 2 ^ 63 - 1 := rfl
  omega
theorem i64_of {n : Int} (h : (Lit.int .i64 n).wf = true) : -9223372036854775808 ≤ n ∧ n ≤ 9223372036854775807 := bounds_i64 h
end
end Go.Proofs.YtjcnihmbpakipaaGreatDoor.X
