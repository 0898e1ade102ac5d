/-
  Rows: a layout, two fields more, and a struct of fields.
-/
import Derived.Test.YtmbndhciflilbaaGreatDoorXRowZ
namespace Go.Proofs.YtmbndhciflilbaaGreatDoor.X
open Go.RowKit Go.ChangeShapes Go.WideShapes Go.Deep
set_option linter.unusedVariables false
section
variable {H:Type} {enc:TypeId×Value→H} {P:Program} {W:World} {t:TypeId} {v:Value} {d:DataW H} {p:List MemPlace} {ts:List TypeId} {ds:List (DataW H)} {j:Nat}
theorem rd_OL {e:TypeId} (hu:P.underlying t=some (.slice e)) (he:P.underlying e=some .bool) (hc:P.cellsOf e=1) (hb:1≤P.bytesOf e):Rd enc P W t OL fun l=>l.length < 2 ^ 48:=fun ts ds j n cv y hsz ht hd hf=>by
 have s:=A0r hu hf
 obtain ⟨l,v,b⟩:=Aju (j:=j) (v:=cv) (d:=y.1) (p:=y.2) hsz ht hd hu he hc hb ⟨n,by obtain ⟨a,len,cap,rfl⟩:=s;exact hf⟩ s
 exact ⟨l,v,b⟩
end
end Go.Proofs.YtmbndhciflilbaaGreatDoor.X
