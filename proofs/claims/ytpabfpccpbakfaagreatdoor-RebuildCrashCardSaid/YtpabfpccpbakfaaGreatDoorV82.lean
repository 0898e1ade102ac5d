/-
  ref16's model beside an array and a volume.
-/
import Derived.Test.YtpabfpccpbakfaaGreatDoorV78
import Derived.Test.YtpabfpccpbakfaaGreatDoorXRowZ
namespace Go.Proofs.YtpabfpccpbakfaaGreatDoor.X
open Go.RowKit F
set_option maxRecDepth 100000
set_option linter.unusedSimpArgs false
set_option linter.unusedVariables false
section
variable {p q nb:Nat} {cells:List AV} {ps:List Nat} {pv pm bl bb:Nat} {c:Cfg} {k:Nat} {a:Arr} {sq:Int} {E:Nat→Prop} {hp:Heap} {L:List Txt} {bd:List Bool}
end
def zC:List AV:=[.int .i64 0,.int .i64 0,.int .i64 0,.int .i64 0,.int .i64 0]
def cC (c:Cfg):List AV:=[.int .i64 c.k,.int .i64 c.m,.int .i64 c.sh,.int .i64 c.st,.int .i64 c.sl]
end Go.Proofs.YtpabfpccpbakfaaGreatDoor.X
