/-
  LogFull.
-/
import Derived.Test.YtmbndhciflilbaaGreatDoorW04
namespace Go.Proofs.YtmbndhciflilbaaGreatDoor.X
open Go.RowKit F
set_option maxRecDepth 100000
set_option linter.unusedSimpArgs false
set_option linter.unusedVariables false
section
variable {p q nb:Nat} {cells:List AV} {ps:List Nat} {pv lb wb f count:Nat} {c:Cfg} {a:Arr} {sq:Int} {E:Nat→Prop} {hp h':Heap} {L:List Txt} {T:Txt} {z:Nat}
theorem LgS.alloc (S':LgS p q nb cells ps pv lb wb f count c z a sq L T E hp) (zs:List AV):LgS p q nb cells ps pv lb wb f count c z a sq L T E (hp.alloc zs):=by
 have k:∀ x,x < hp.next→(hp.alloc zs).get x=hp.get x:=fun x hx=>by rw [Heap.Aa,if_neg (Nat.ne_of_lt hx)]
 have hE:∀ x,E x→x < hp.next:=fun x hx=>by
  obtain ⟨F',A,hF⟩:=S'.H.at_
  exact (hF x (.inr hx)).2
 refine ⟨S'.H.frame (Nat.le_succ _) rfl (fun b hb _=>k b hb) (fun x hx=>⟨.inl hx,Nat.lt_succ_of_lt (hE x hx)⟩),S'.G,S'.A.keep (k lb (hE lb S'.h1)) (k wb (hE wb S'.h2)),S'.le,S'.lf,S'.h1,S'.h2,S'.hC,S'.hz,S'.h6⟩
end
end Go.Proofs.YtmbndhciflilbaaGreatDoor.X
