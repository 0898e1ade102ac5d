/-
  Looking at all stripes: heads, steps (plain mathematics).
-/
import Derived.Test.YtpabfpccpbakfaaGreatDoorP14
namespace Go.Proofs.YtpabfpccpbakfaaGreatDoor.X
open F
set_option linter.unusedSimpArgs false
set_option linter.unusedVariables false
def okX (c:Cfg) (N:Nat) (X:Nat→Nat→Bool) (n:Nat):Prop:=c.k+cntX X N (stP c n)≤N
instance (c:Cfg) (N:Nat) (X:Nat→Nat→Bool) (n:Nat):Decidable (okX c N X n):=by unfold okX;exact inferInstance
def oneX (c:Cfg) (N:Nat) (X:Nat→Nat→Bool) (n:Nat):Nat→Nat→Bool:=if okX c N X n then clr X (stP c n) else X
def afX (c:Cfg) (N:Nat):Nat→Nat→(Nat→Nat→Bool)→(Nat→Nat→Bool)
 | 0,_,X=>X
 | k+1,n,X=>afX c N k (n+1) (oneX c N X n)
def meX (c:Cfg) (N:Nat):Nat→Nat→(Nat→Nat→Bool)→Nat
 | 0,_,_=>0
 | k+1,n,X=>(if okX c N X n then cntX X N (stP c n) else 0)+meX c N k (n+1) (oneX c N X n)
def loX (c:Cfg) (N:Nat):Nat→Nat→(Nat→Nat→Bool)→Nat
 | 0,_,_=>0
 | k+1,n,X=>(if okX c N X n then 0 else 1)+loX c N k (n+1) (oneX c N X n)
end Go.Proofs.YtpabfpccpbakfaaGreatDoor.X
