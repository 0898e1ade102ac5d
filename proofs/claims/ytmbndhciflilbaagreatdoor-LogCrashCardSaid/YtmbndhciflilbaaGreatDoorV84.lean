/-
  Rebuild: its methods; RebuildNil.
-/
import Derived.Test.YtmbndhciflilbaaGreatDoorV82
import Derived.Test.YtmbndhciflilbaaGreatDoorPB
namespace Go.Proofs.YtmbndhciflilbaaGreatDoor.X
open Go.RowKit F
set_option maxRecDepth 100000
set_option linter.unusedSimpArgs false
set_option linter.unusedVariables false
section
variable {p q nb:Nat} {cells:List AV} {ps:List Nat} {pv br:Nat} {c:Cfg} {k:Nat} {a:Arr} {sq:Int} {E:Nat→Prop} {hp:Heap} {L:List Txt}
end
end Go.Proofs.YtmbndhciflilbaaGreatDoor.X
