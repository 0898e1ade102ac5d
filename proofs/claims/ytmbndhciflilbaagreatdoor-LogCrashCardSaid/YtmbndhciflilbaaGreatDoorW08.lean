/-
  LogScripts.
-/
import Derived.Test.YtmbndhciflilbaaGreatDoorW07
namespace Go.Proofs.YtmbndhciflilbaaGreatDoor.X
open Go.RowKit F
set_option maxRecDepth 100000
set_option linter.unusedSimpArgs false
set_option linter.unusedVariables false
def Df (n:Nat):Code→Option Code
 | .seq (.region i l d) b=>if i=n then some (.seq (.region i l d) b) else Df n b
 | .seq a b=>match Df n a with
  | some c=>some c
  | none=>Df n b
 | .cond _ a b=>match Df n a with
  | some c=>some c
  | none=>Df n b
 | .block _ a=>Df n a
 | .loop a=>Df n a
 | _=>none
section
variable {p q nb:Nat} {cells:List AV} {ps:List Nat} {pv lb wb f count mb bo bc:Nat} {c:Cfg} {a:Arr} {sq:Int} {E:Nat→Prop} {hp h':Heap} {L:List Txt} {T:Txt} {z:Nat}
structure LsR (f count pv bc:Nat) (c:Cfg) (h0:Heap) (j:Nat) (r:Regs) (hp:Heap):Prop where
 le:(j:Int)≤c.st
 r3:rg r 3 = .ptr bc 0
 r4:rg r 4 = .int .i64 f
 r5:rg r 5 = .int .i64 count
 r8:rg r 8 = .ptr pv 0
 r17:rg r 17 = .int .i64 j
 h:h0=hp
end
end Go.Proofs.YtmbndhciflilbaaGreatDoor.X
