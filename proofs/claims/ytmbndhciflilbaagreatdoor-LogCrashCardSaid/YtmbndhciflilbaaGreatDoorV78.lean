/-
  law17.live.
-/
import Derived.Test.YtmbndhciflilbaaGreatDoorV77
namespace Go.Proofs.YtmbndhciflilbaaGreatDoor.X
open Go.RowKit F
set_option maxRecDepth 100000
set_option linter.unusedSimpArgs false
set_option linter.unusedVariables false
end Go.Proofs.YtmbndhciflilbaaGreatDoor.X
