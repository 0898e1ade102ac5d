/-
  ref16's model beside an array and a volume.
-/
import Derived.Test.YtmbndhciflilbaaGreatDoorV78
import Derived.Test.YtmbndhciflilbaaGreatDoorXRowZ
namespace Go.Proofs.YtmbndhciflilbaaGreatDoor.X
open Go.RowKit F
set_option maxRecDepth 100000
set_option linter.unusedSimpArgs false
set_option linter.unusedVariables false
section
variable {p q nb:Nat} {cells:List AV} {ps:List Nat} {pv pm bl bb:Nat} {c:Cfg} {k:Nat} {a:Arr} {sq:Int} {E:Nat→Prop} {hp:Heap} {L:List Txt} {bd:List Bool}
theorem MdA.fr {h':Heap} (M:MdA pm bl bb c L bd hp) (F:Fr' E hp h') (h1:E pm) (h2:E bl) (h3:E bb):MdA pm bl bb c L bd h' :=
 ⟨(F _ h1).trans M.gm,(F _ h2).trans M.gl,(F _ h3).trans M.gb,M.n1,M.n2,M.n3⟩
end
theorem mRd_at {c:Cfg} {L:List Txt} {n:Nat} (hll:(L.length:Int)=c.st) (hn:n < L.length):mRd c L n=(L[n],0):=by
 unfold mRd
 rw [if_neg ω]
 simp [hn]
def zC:List AV:=[.int .i64 0,.int .i64 0,.int .i64 0,.int .i64 0,.int .i64 0]
def cC (c:Cfg):List AV:=[.int .i64 c.k,.int .i64 c.m,.int .i64 c.sh,.int .i64 c.st,.int .i64 c.sl]
def Al1H (H:Heap) (c:Cfg) (b8 b9:Bool):Heap:=if b9 then (H.alloc zC).put H.next (cC c) else if b8 then H.alloc zC else H
end Go.Proofs.YtmbndhciflilbaaGreatDoor.X
