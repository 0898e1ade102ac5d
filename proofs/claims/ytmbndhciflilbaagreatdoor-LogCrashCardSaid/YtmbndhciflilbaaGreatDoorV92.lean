/-
  Two arrays with their volumes in one heap; a log in the heap.
-/
import Derived.Test.YtmbndhciflilbaaGreatDoorV82
import Derived.Test.YtmbndhciflilbaaGreatDoorPB
namespace Go.Proofs.YtmbndhciflilbaaGreatDoor.X
open Go.RowKit F
set_option maxRecDepth 100000
set_option linter.unusedSimpArgs false
set_option linter.unusedVariables false
section
variable {p q nb p' q' nb':Nat} {cells cells':List AV} {ps ps':List Nat} {pv pv':Nat} {c c':Cfg} {k k':Nat} {a a':Arr} {sq sq':Int} {E:Nat→Prop} {hp h1:Heap}
structure TwoV (p q nb:Nat) (cells:List AV) (ps:List Nat) (pv:Nat) (c:Cfg) (k:Nat) (a:Arr) (sq:Int) (p' q' nb':Nat) (cells':List AV) (ps':List Nat) (pv':Nat) (c':Cfg) (k':Nat) (a':Arr) (sq':Int) (E:Nat→Prop) (hp:Heap):Prop where
 ex:∃ F':Nat→Prop,LawV p q nb cells ps pv c k a sq (fun x=>E x∨x=pv'∨F' x) hp∧ArrI p' q' nb' cells' ps' a' hp F'  ∧ (∀ x,E x→¬F' x)∧¬F' pv'
 gv:hp.get pv'=some (volC p' c' 7 sq')
 q:ArrQ k' a'
 len:(a'.disks.length:Int)=c'.k+c'.m
 ne:∀ x,E x→x≠pv'
theorem TwoV.one (T:TwoV p q nb cells ps pv c k a sq p' q' nb' cells' ps' pv' c' k' a' sq' E hp):LawV p q nb cells ps pv c k a sq E hp:=by
 obtain ⟨F',H,_⟩:=T.ex
 exact H.less fun x hx=> .inl hx
theorem TwoV.swap (T:TwoV p q nb cells ps pv c k a sq p' q' nb' cells' ps' pv' c' k' a' sq' E hp):TwoV p' q' nb' cells' ps' pv' c' k' a' sq' p q nb cells ps pv c k a sq E hp:=by
 obtain ⟨F',H,A',hE,hp'⟩:=T.ex
 obtain ⟨F,A,hF⟩:=H.at_
 refine ⟨⟨F,⟨T.gv,⟨F',A',fun x hx=> ?_⟩,H.lp,T.q,T.len,fun x hx=> ?_⟩,A,fun x hx=>(hF x (.inr (.inl hx))).1,(hF pv (.inl rfl)).1⟩,H.gv,H.q,H.len,fun x hx=>H.ne x (.inl hx)⟩
 ·rcases hx with rfl|hx|rfl|hx
  ·exact ⟨hp',Heap.Ah T.gv⟩
  ·exact ⟨hE x hx,(hF x (.inr (.inl hx))).2⟩
  ·exact ⟨fun h=>H.ne x (.inr (.inr h)) rfl,Heap.Ah H.gv⟩
  ·exact ⟨fun h=>(hF x (.inr (.inr (.inr h)))).1 hx,(ArrI.loc p q nb cells ps a).live _ _ _ A hx⟩
 ·rcases hx with hx|rfl|hx
  ·exact T.ne x hx
  ·exact fun e=>(H.ne pv' (.inr (.inl rfl))) e.symm
  ·exact fun e=>(hF x (.inr (.inr (.inl e)))).1 hx
theorem TwoV.turn (T:TwoV p q nb cells ps pv c k a sq p' q' nb' cells' ps' pv' c' k' a' sq' E hp) :
  ∃ E1:Nat→Prop,(∀ x,E x→E1 x)∧LawV p q nb cells ps pv c k a sq E1 hp∧∀ {k1:Nat} {a1:Arr} {sq1:Int} {h':Heap},LawV p q nb cells ps pv c k1 a1 sq1 E1 h'→Fr' E1 hp h'→TwoV p q nb cells ps pv c k1 a1 sq1 p' q' nb' cells' ps' pv' c' k' a' sq' E h':=by
 obtain ⟨F',H,A',hE,hp'⟩:=T.ex
 refine ⟨_,fun x hx=> .inl hx,H,fun {k1 a1 sq1 h'} H1 F1=>⟨⟨F',H1,(ArrI.loc p' q' nb' cells' ps' a').keep _ _ _ A' fun b hb=>F1 b (.inr (.inr hb)),hE,hp'⟩,(F1 pv' (.inr (.inl rfl))).trans T.gv,T.q,T.len,T.ne⟩⟩
theorem TwoV.less (T:TwoV p q nb cells ps pv c k a sq p' q' nb' cells' ps' pv' c' k' a' sq' E hp) {E':Nat→Prop} (h:∀ x,E' x→E x):TwoV p q nb cells ps pv c k a sq p' q' nb' cells' ps' pv' c' k' a' sq' E' hp:=by
 obtain ⟨F',H,A',hE,hp'⟩:=T.ex
 exact ⟨⟨F',H.less fun x hx=>hx.imp_left (h x),A',fun x hx=>hE x (h x hx),hp'⟩,T.gv,T.q,T.len,fun x hx=>T.ne x (h x hx)⟩
theorem TwoV.make (H:LawV p q nb cells ps pv c k a sq E hp) (hlt:∀ x,E x→x < hp.next) {h':Heap} (H':LawV p' q' nb' cells' ps' pv' c' k' a' sq' (fun b=>b < hp.next) h') (F:Fr' (fun b=>b < hp.next) hp h') (hpv:pv' ≥ hp.next) (hn:hp.next≤h'.next) (lp:h'.lp=none) :
  TwoV p' q' nb' cells' ps' pv' c' k' a' sq' p q nb cells ps pv c k a sq E h':=by
 obtain ⟨F1,A,hF⟩:=H.at_
 have hpl:=Heap.Ah H.gv
 have hFl:∀ x,F1 x→x < hp.next:=fun x hx=>(ArrI.loc p q nb cells ps a).live _ _ _ A hx
 refine ⟨⟨F1,H'.less fun x hx=> ?_,(ArrI.loc p q nb cells ps a).keep _ _ _ A fun b hb=>F b (hFl b hb),fun x hx=>(hF x (.inr hx)).1,(hF pv (.inl rfl)).1⟩,(F pv hpl).trans H.gv,H.q,H.len,fun x hx=>H.ne x hx⟩
 rcases hx with hx|rfl|hx
 ·exact hlt x hx
 ·exact hpl
 ·exact hFl x hx
theorem LawV.frame (H:LawV p q nb cells ps pv c k a sq E hp) {h':Heap} {E':Nat→Prop} (hn:hp.next≤h'.next) (lp:h'.lp=hp.lp) (hk:∀ b,b < hp.next→¬E b→h'.get b=hp.get b) (hE:∀ x,E' x→(E x∨hp.next≤x)∧x < h'.next):LawV p q nb cells ps pv c k a sq E' h':=by
 obtain ⟨F,A,hF⟩:=H.at_
 have hpv:=Heap.Ah H.gv
 have hl:∀ b,F b→b < hp.next:=fun b hb=>(ArrI.loc p q nb cells ps a).live _ _ _ A hb
 refine ⟨(hk pv hpv fun h=>H.ne pv h rfl).trans H.gv,⟨F,(ArrI.loc p q nb cells ps a).keep _ _ _ A fun b hb=>hk b (hl b hb) fun h=>(hF b (.inr h)).1 hb,fun x hx=> ?_⟩,lp.trans H.lp,H.q,H.len,fun x hx=> ?_⟩
 ·rcases hx with rfl|hx
  ·exact ⟨(hF x (.inl rfl)).1,ω⟩
  ·obtain ⟨h1,h2⟩:=hE x hx
   refine ⟨fun hb=> ?_,h2⟩
   rcases h1 with h1|h1
   ·exact (hF x (.inr h1)).1 hb
   ·have:=hl x hb
    omega
 ·rcases (hE x hx).1 with h1|h1
  ·exact H.ne x h1
  ·omega
structure LgB (lb wb pv from_ count:Nat) (z:Int) (P:List Txt) (h:Heap):Prop where
 ex:∃ cap cs,h.get lb=some [.ptr pv 0,.int .i64 from_,.int .i64 count,.int .i64 z,.sl wb 0 count cap 1]∧h.get wb=some cs∧cs.length=cap∧count≤cap∧∀ i:Nat,i < count→cs[i]? = (P[i]?).map S
 pl:P.length=count
 ne:lb≠wb
theorem LgB.keep {lb wb pv from_ count:Nat} {z:Int} {P:List Txt} {h h':Heap} (A:LgB lb wb pv from_ count z P h) (hl:h'.get lb=h.get lb) (hw:h'.get wb=h.get wb):LgB lb wb pv from_ count z P h':=by
 obtain ⟨⟨cap,cs,g,gw,h1,h2,h3⟩,pl,ne⟩:=A
 exact ⟨⟨cap,cs,hl.trans g,hw.trans gw,h1,h2,h3⟩,pl,ne⟩
theorem LgB.of {lb pv from_ count:Nat} {z:Int} {P:List Txt} {G:Nat→Prop} {h:Heap} {x:AV} (g:h.get lb=some [.ptr pv 0,.int .i64 from_,.int .i64 count,.int .i64 z,x]) (C:CapA x (P.map S) h G) (hG:¬G lb) (hc:0 < count) (hl:P.length=count):∃ wb,LgB lb wb pv from_ count z P h∧∀ b,G b↔b=wb:=by
 rcases C with ⟨rfl,e,_⟩|⟨wb,cap,cs,rfl,h1,h2,h3,h4,h5⟩
 ·have:P=[]:=by simpa using e
  rw [this] at hl
  simp at hl
  omega
 ·rw [List.length_map,hl] at g h3 h4
  refine ⟨wb,⟨⟨cap,cs,g,h1,h2,h3,fun i hi=> ?_⟩,hl,fun e=>hG ((h5 lb).2 e)⟩,h5⟩
  rw [←List.getElem?_map,←h4,List.getElem?_take_of_lt hi]
end
end Go.Proofs.YtmbndhciflilbaaGreatDoor.X
