/-
  Damage of a scrub's laws: one stripe that is lost; sectors of few disks (plain mathematics).
-/
import Derived.Test.YtpabfpccpbakfaaGreatDoorP18
namespace Go.Proofs.YtpabfpccpbakfaaGreatDoor.X
open F
set_option linter.unusedSimpArgs false
set_option linter.unusedVariables false
def Er (X:Nat→Nat→Bool) (N S:Nat):List Bool:=(List.range (N * S)).map fun i=>X (i / S) (i % S)
end Go.Proofs.YtpabfpccpbakfaaGreatDoor.X
