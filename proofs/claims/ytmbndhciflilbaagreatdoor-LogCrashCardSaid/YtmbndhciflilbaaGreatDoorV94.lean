/-
  Logs: put.
-/
import Derived.Test.YtmbndhciflilbaaGreatDoorV93
namespace Go.Proofs.YtmbndhciflilbaaGreatDoor.X
open Go.RowKit F
set_option maxRecDepth 100000
set_option linter.unusedSimpArgs false
set_option linter.unusedVariables false
section
variable {p q nb:Nat} {cells:List AV} {ps:List Nat} {pv lb wb f count:Nat} {c:Cfg} {a:Arr} {sq:Int} {E:Nat→Prop} {hp:Heap} {L P:List Txt} {zz:Int}
def PutQ (B:Int) (p q nb:Nat) (cells:List AV) (ps:List Nat) (pv lb wb f count:Nat) (c:Cfg) (a:Arr) (sq:Int) (L P:List Txt) (E:Nat→Prop) (zz:Int) (hp:Heap) (n:Nat) (s:Txt) (x:AV) (h':Heap):Prop :=
   (x = .int .i64 0∧∃ a' sq' L',LawV p q nb cells ps pv c 0 a' sq' E h'∧LF c a' sq' L' f count (P.set n s)∧LgB lb wb pv f count zz (P.set n s) h'∧Fr' (fun x=>E x∧x≠wb) hp h'∧OutL L L' f count∧sq'≤sq+1∧Stp a a') ∨
   (x = .int .i64 9∧¬a.left < 0∧∃ a' k',LawV p q nb cells ps pv c k' a' sq E h'∧k' < 2 ^ 20∧a'.down=true∧Stp a a'∧RS c a' L (L.set (f+n) s) B∧LgB lb wb pv f count zz P h'∧Fr' E hp h')
theorem A3t (H:LawV p q nb cells ps pv c 0 a sq E hp) (hC:Ax c) (G:LF c a sq L f count P) (A:LgB lb wb pv f count zz P hp) (h1:E lb) (h2:E wb) {B:Int} (hs:sq < B∧B≤1000) {n:Nat} (hn:n < count) {s:Txt} (hl:(s.length:Int)≤Aw c) :
  CSem Tryz.prog 35 [.ptr lb 0,.int .i64 n,S s] hp (PutQ B p q nb cells ps pv lb wb f count c a sq L P E zz hp n s):=by
 refine CSem.body hm Tryz.func35 rfl κ κ (by simp [Tryz.ntmps35]) ?_
 have k0:=Bd hC
 have hA:=A
 obtain ⟨⟨cap,cs,g,gw,c1,c2,c3⟩,pl,ne⟩:=A
 have hcl:n < cs.length:=by omega
 have hnP:n < P.length:=by omega
 have hci:cs[n]=S P[n]:=by
  have:=c3 n hn
  rw [List.getElem?_eq_getElem hcl,List.getElem?_eq_getElem hnP] at this
  exact Option.some.inj this
 have hn':(n:Int) < count:=by omega
 have hfc:=G.fc
 have hst:=hC.2.2.2.1
 have hw:IntKind.i64.wrap ((f:Int)+n)=((f+n:Nat):Int):=by rw [wrap64 ω ω];push_cast;rfl
 have hbl:=Heap.Ah gw
 have hm0:0≤c.m:=hC.1.2.1
 by_cases hsame:P[n]=s
 ·have e:P.set n s=P:=by rw [←hsame];exact List.set_getElem_self hnP
  simp [Tryz.f35,A8,g,gw,hn,hn',hcl,hci,hsame]
  exact .inl ⟨rfl,a,sq,L,H,by rw [e];exact G,by rw [e];exact hA,fun _ _=>rfl,OutL.refl _ _ _,ω,Stp.refl a⟩
 refine Nd (fun r h'=>rg r 0 = .ptr lb 0∧rg r 1 = .int .i64 n∧rg r 2=S s∧hp=h') ?_ μ
 rintro r _ ⟨r0,r1,r2,rfl⟩
 rw [Eb]
 refine R7 (fun r' h'=>rg r' 0 = .ptr lb 0∧rg r' 1 = .int .i64 n∧rg r' 2=S s∧hp=h') ?_ ?_
 ·simp [r0,r1,r2,A8,g,gw,hn,hn',hcl,hci,hsame]
 clear r0 r1 r2
 rintro r _ ⟨r0,r1,r2,rfl⟩
 rw [Td,Eb,Eb]
 obtain ⟨S1,w⟩:=G.put hm0 hs hn hl
 refine R7 (fun r' h'=>rg r' 0 = .ptr lb 0∧rg r' 1 = .int .i64 n∧rg r' 2=S s∧rg r' 7 = .int .i64 (Am a 7 c sq ((f+n:Nat):Int) s).2.2∧LawV p q nb cells ps pv c (0+2 * a.disks.length) (Am a 7 c sq ((f+n:Nat):Int) s).1 (Am a 7 c sq ((f+n:Nat):Int) s).2.1 E h'∧Fr' E hp h') ?_ ?_
 ·refine Br 11 κ ?_
  simp [r0,r1,r2,A8,g,hw]
  refine (H.write hC ν G.s0 ω ((f+n:Nat):Int) s).then ?_
  rintro _ h' ⟨rfl,H',F'⟩
  simp [r0,r1,r2]
  exact ⟨by simpa using H',F'⟩
 clear r0 r1 r2
 rintro r h1' ⟨r0,r1,r2,r7,H1,F1⟩
 have g1:=(F1 lb h1).trans g
 have gw1:=(F1 wb h2).trans gw
 have hlen:=H.len
 rcases w with ⟨w1,w2,w3⟩|⟨w1,w2,w3,w4,w5⟩
 ·rw [w1] at r7
  rw [w2] at H1 w3
  generalize (Am a 7 c sq ((f+n:Nat):Int) s).1=a' at H1 w3 S1
  have H1:=H1.mono (H1.q.qt w3.v.qt)
  have hbl1:=Heap.Ah gw1
  have H2:=H1.put h2 (cs.set n (S s)) gw1
  have F2:Fr' (fun x=>E x∧x≠wb) hp (h1'.put wb (cs.set n (S s))):=fun x hx=>(Heap.Aq gw1 hx.2).trans (F1 x hx.1)
  have A2:LgB lb wb pv f count zz (P.set n s) (h1'.put wb (cs.set n (S s))):=by
   refine ⟨⟨cap,_,(Heap.Aq gw1 ne).trans g1,Heap.Ak gw1,by rw [List.length_set];exact c1,c2,fun i hi=> ?_⟩,by rw [List.length_set];exact pl,ne⟩
   rw [List.getElem?_set,List.getElem?_set]
   by_cases hni:n=i
   ·subst hni
    rw [if_pos rfl,if_pos rfl,if_pos hcl,if_pos hnP]
    rfl
   ·rw [if_neg hni,if_neg hni]
    exact c3 i hi
  simp [r0,r1,r2,r7,A8,g1,gw1,hn,hn',hcl,hbl1]
  exact .inl ⟨rfl,a',sq+1,_,H2,w3,A2,F2,OutL.set hn s,ω,S1⟩
 ·rw [w1] at r7
  rw [w2] at H1
  simp [r7]
  exact .inr ⟨rfl,ω,_,_,H1,ω,w3,S1,w5,hA.keep (F1 lb h1) (F1 wb h2),F1⟩
end
end Go.Proofs.YtmbndhciflilbaaGreatDoor.X
