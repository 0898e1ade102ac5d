/-
  Looking at all stripes: models, and what is mended (plain mathematics).
-/
import Derived.Test.YtpabfpccpbakfaaGreatDoorP13
namespace Go.Proofs.YtpabfpccpbakfaaGreatDoor.X
open F
set_option linter.unusedSimpArgs false
set_option linter.unusedVariables false
structure RepD where
 nx:Int
 me:Int
 lo:Int
 dn:Bool
def rep0:RepD:=⟨0,0,0,false⟩
def addE (e:Int):Int:=if e=10 then 0 else e
def addR (r:RepD) (many e:Int):RepD:=⟨r.nx,r.me+many,if e=10 then r.lo+1 else r.lo,r.dn⟩
structure ScD where
 ar:Arr
 rp:RepD
 er:Int
def Dq (id:Int) (c:Cfg):Nat→Arr→RepD→ScD
 | 0,a,r=>⟨a,⟨r.nx,r.me,r.lo,decide (r.nx=c.st)⟩,0⟩
 | n+1,a,r =>
  if addE (Bm a id c r.nx).2.2≠0 then ⟨(Bm a id c r.nx).1,rep0,addE (Bm a id c r.nx).2.2⟩
  else Dq id c n (Bm a id c r.nx).1 ⟨r.nx+1,(addR r (Bm a id c r.nx).2.1 (Bm a id c r.nx).2.2).me,(addR r (Bm a id c r.nx).2.1 (Bm a id c r.nx).2.2).lo,r.dn⟩
def Bj (a:Arr) (id:Int) (c:Cfg) (fr many:Int):ScD :=
 if fr < 0∨c.st < fr∨many < 1 then ⟨a,rep0,1⟩
 else if fr=0 then
  (if addE (B7 a id c).2.2≠0 then ⟨(B7 a id c).1,rep0,addE (B7 a id c).2.2⟩
   else Dq id c (min many (c.st - fr)).toNat (B7 a id c).1 (addR ⟨fr,0,0,false⟩ (B7 a id c).2.1 (B7 a id c).2.2))
 else Dq id c (min many (c.st - fr)).toNat a ⟨fr,0,0,false⟩
def Dt (a:Arr) (id:Int) (c:Cfg):ScD:=Bj a id c 0 (max c.st 1)
def D5 (a:Arr) (id:Int) (c:Cfg):Nat→Int→Int×Int
 | 0,l=>(l,0)
 | n+1,l=>if (D5 a id c n l).2≠0 then D5 a id c n l else if (Cu a id c n).2≠0 then (0,(Cu a id c n).2) else (min (D5 a id c n l).1 (Cu a id c n).1,0)
def Dy (a:Arr) (id:Int) (c:Cfg):Int×Int:=D5 a id c c.st.toNat 255
def SA (a b:Arr) (d p:Nat):Prop:= ∀ x,a.disks[d]? = some x→∃ y,b.disks[d]? = some y∧y.gone=x.gone∧y.secs.length=x.secs.length∧y.at_ p=x.at_ p
theorem Lst.sa {id:Int} {a b:Arr} {d p:Nat} {bk:BlkD} (h:Lst id a d p bk) (S:SA a b d p):Lst id b d p bk:=by
 obtain ⟨x,h1,h2,h3,h4⟩:=h
 obtain ⟨y,k1,k2,k3,k4⟩:=S x h1
 exact ⟨y,k1,by rw [k2];exact h2,by rw [k3];exact h3,by rw [k4];exact h4⟩
def UnA (a:Arr) (d p:Nat):Prop:= ∃ x,a.disks[d]? = some x∧x.gone=false∧p < x.secs.length∧Un 7 d p (x.at_ p)
theorem UnA.sa {a b:Arr} {d p:Nat} (h:UnA a d p) (S:SA a b d p):UnA b d p:=by
 obtain ⟨x,h1,h2,h3,h4⟩:=h
 obtain ⟨y,k1,k2,k3,k4⟩:=S x h1
 exact ⟨y,k1,by rw [k2];exact h2,by rw [k3];exact h3,by rw [k4];exact h4⟩
structure EX (c:Cfg) (a:Arr) (sq:Int) (L:List Txt) (X:Nat→Nat→Bool):Prop where
 ex:∃ g,Inv c 7 g (fun _=>True) none a∧g.sq=sq∧(∀ n:Nat,(n:Int) < c.st→L[n]? = some (g.tx n)) ∧
  ∀ d:Nat,d < a.disks.length→(X d 0=false→Lst 7 a d 0 (hdB 7 d c))∧(X d 0=true→UnA a d 0) ∧
   ∀ n:Nat,(n:Int) < c.st→(X d (stP c n)=false→Lst 7 a d (stP c n) (stB 7 c n (g.ep n) (g.tx n) d))∧(X d (stP c n)=true→UnA a d (stP c n))
 dn:a.down=false
 qt:Qt a
 ll:(L.length:Int)=c.st
 al:∀ d:Nat,d < a.disks.length→a.alive (d:Int)=true
 lf:a.left < 0
def cntX (X:Nat→Nat→Bool) (N p:Nat):Nat:=(List.range N).countP fun d=>X d p
def clr (X:Nat→Nat→Bool) (q:Nat):Nat→Nat→Bool:=fun d p=>if p=q then false else X d p
end Go.Proofs.YtpabfpccpbakfaaGreatDoor.X
