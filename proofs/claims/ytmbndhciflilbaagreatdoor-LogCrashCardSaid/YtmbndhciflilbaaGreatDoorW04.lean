/-
  Logs beside one another.
-/
import Derived.Test.YtmbndhciflilbaaGreatDoorW03
namespace Go.Proofs.YtmbndhciflilbaaGreatDoor.X
open Go.RowKit F
set_option maxRecDepth 100000
set_option linter.unusedSimpArgs false
set_option linter.unusedVariables false
section
variable {p q nb:Nat} {cells:List AV} {ps:List Nat} {pv lb wb f count lb' wb' f' count':Nat} {c:Cfg} {a a':Arr} {sq sq':Int} {E E':Nat→Prop} {hp h':Heap} {L L':List Txt} {T T':Txt} {z:Nat}
theorem LgS.other (S:LgS p q nb cells ps pv lb wb f count c z a sq L T E hp) (S':LgS p q nb cells ps pv lb' wb' f' count' c z a' sq' L' T' E h') (h:f+count≤f'∨f'+count'≤f) (O:OutL L L' f' count') (hl:h'.get lb=hp.get lb) (hw:h'.get wb=hp.get wb):LgS p q nb cells ps pv lb wb f count c z a' sq' L' T E h' :=
 ⟨S'.H,⟨S'.G.v,S'.G.len,S'.G.al,S'.G.ll,S.G.fc,S.G.pl,fun i hi=>by rw [O (f+i) ω];exact S.G.at_ i hi,S'.G.s0⟩,S.A.keep hl hw,S.le,S'.lf,S.h1,S.h2,S.hC,S.hz,S.h6⟩
end
end Go.Proofs.YtmbndhciflilbaaGreatDoor.X
