/-
  ref16's model beside an array and a volume.
-/
import Derived.Test.YtngbipjclpncoaaGreatDoorV78
import Derived.Test.YtngbipjclpncoaaGreatDoorXRowZ
namespace Go.Proofs.YtngbipjclpncoaaGreatDoor.X
open Go.RowKit F
set_option maxRecDepth 100000
set_option linter.unusedSimpArgs false
set_option linter.unusedVariables false
section
variable {p q nb:Nat} {cells:List AV} {ps:List Nat} {pv pm bl bb:Nat} {c:Cfg} {k:Nat} {a:Arr} {sq:Int} {E:Nat→Prop} {hp:Heap} {L:List Txt} {bd:List Bool}
theorem MdA.fr {h':Heap} (M:MdA pm bl bb c L bd hp) (F:Fr' E hp h') (h1:E pm) (h2:E bl) (h3:E bb):MdA pm bl bb c L bd h' :=
 ⟨(F _ h1).trans M.gm,(F _ h2).trans M.gl,(F _ h3).trans M.gb,M.n1,M.n2,M.n3⟩
theorem LawV.mnew (H:LawV p q nb cells ps pv c k a sq E hp) (hC:ConfP c):CSem Tryz.prog 19 [CfA c] hp fun x h'=> ∃ pm bl bb,x = .ptr pm 0∧LawV p q nb cells ps pv c k a sq (fun x=>E x∨x=pm∨x=bl∨x=bb) h'∧MdA pm bl bb c (List.replicate c.st.toNat []) (List.replicate (c.k+c.m).toNat false) h'∧Fr' E hp h'∧∀ x,E x→x≠pm∧x≠bl∧x≠bb:=by
 refine (mnew_sem hC hp).mono ?_
 rintro x h' ⟨X,pm,bl,bb,rfl,n1,n2,n3,M⟩
 have g1:=Heap.get_lt M.gm
 have g2:=Heap.get_lt M.gl
 have g3:=Heap.get_lt M.gb
 refine ⟨pm,bl,bb,rfl,(H.ext X).less fun x hx=> ?_,M,H.frE X,fun x hx=> ?_⟩
 ·rcases hx with hx|rfl|rfl|rfl
  ·exact .inl hx
  ·exact .inr ⟨n1,g1⟩
  ·exact .inr ⟨n2,g2⟩
  ·exact .inr ⟨n3,g3⟩
 ·have:=H.lt hx
  omega
theorem LawV.mw (H:LawV p q nb cells ps pv c k a sq E hp) (M:MdA pm bl bb c L bd hp) (hE:E bl) (hl:(L.length:Int)=c.st) (n:Int) (t:Txt) :
  CSem Tryz.prog 20 [.ptr pm 0,.int .i64 n,S t] hp fun x h'=>x = .int .i64 (mWrE c n t)∧LawV p q nb cells ps pv c k a sq E h'∧MdA pm bl bb c (mWr c L n t) bd h'∧∀ x,x≠bl→h'.get x=hp.get x:=by
 refine (mwrite_sem M hl n t).mono ?_
 rintro x h' ⟨rfl,M',h|h⟩
 ·subst h
  exact ⟨rfl,H,M',fun _ _=>rfl⟩
 ·subst h
  exact ⟨rfl,H.put hE _ M.gl,M',fun x hx=>Heap.get_put_other M.gl hx⟩
end
def EM (b pm bl bb:Nat):Nat→Prop:=fun x=>x=b∨x=pm∨x=bl∨x=bb
theorem mRd_at {c:Cfg} {L:List Txt} {n:Nat} (hll:(L.length:Int)=c.st) (hn:n < L.length):mRd c L n=(L[n],0):=by
 unfold mRd
 rw [if_neg (by omega)]
 simp [hn]
def zC:List AV:=[.int .i64 0,.int .i64 0,.int .i64 0,.int .i64 0,.int .i64 0]
def cC (c:Cfg):List AV:=[.int .i64 c.k,.int .i64 c.m,.int .i64 c.sh,.int .i64 c.st,.int .i64 c.sl]
def Al1H (H:Heap) (c:Cfg) (b8 b9:Bool):Heap:=if b9 then (H.alloc zC).put H.next (cC c) else if b8 then H.alloc zC else H
end Go.Proofs.YtngbipjclpncoaaGreatDoor.X
