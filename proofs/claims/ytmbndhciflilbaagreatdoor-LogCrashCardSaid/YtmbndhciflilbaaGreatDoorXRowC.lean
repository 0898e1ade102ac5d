/-
  Rows: a layout (a struct of five ints) that comes into a law.
-/
import Derived.Test.YtmbndhciflilbaaGreatDoorXRow
import Derived.Test.YtmbndhciflilbaaGreatDoorEA
namespace Go.Proofs.YtmbndhciflilbaaGreatDoor.X
open Go.RowKit Go.ChangeShapes Go.WideShapes Go.Deep
set_option linter.unusedVariables false
section
variable {H:Type} {enc:TypeId×Value→H} {P:Program} {W:World} {t:TypeId} {v:Value} {d:DataW H} {p:List MemPlace}
def CfW (c:Cfg):Prop:=(Lit.int .i64 c.k).wf=true∧(Lit.int .i64 c.m).wf=true∧(Lit.int .i64 c.sh).wf=true∧(Lit.int .i64 c.st).wf=true∧(Lit.int .i64 c.sl).wf=true
end
end Go.Proofs.YtmbndhciflilbaaGreatDoor.X
