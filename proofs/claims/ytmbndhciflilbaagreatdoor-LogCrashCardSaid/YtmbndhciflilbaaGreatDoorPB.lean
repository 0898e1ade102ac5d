/-
  Texts of a proof, as one: P13, P14, P15, P16, P17, P18, P19, P20, P21, P22, P23, P24, P25, P26, P27, P28, P29.
-/
import Derived.Test.YtmbndhciflilbaaGreatDoorPA
import Derived.Test.YtmbndhciflilbaaGreatDoorVG
namespace Go.Proofs.YtmbndhciflilbaaGreatDoor.X
open F
set_option linter.unusedSimpArgs false
set_option linter.unusedVariables false
def bdP (bd:List Bool) (d:Nat):Prop:=bd[d]? = some true
def bads (bd:List Bool):Nat:=bd.countP fun b=>b
theorem Ma {α:Type} (p:α→Bool) (q:Nat→Bool):∀ (l:List α) (n:Nat),(∀ (i:Nat) x,l[i]? = some x→q (n+i)=p x)→((List.range l.length).map (n + ·)).countP q=l.countP p
 | [],n,_=>rfl
 | x :: l,n,h=>by
  have e:(List.range (x :: l).length).map (n + ·)=n :: (List.range l.length).map (n+1 + ·):=by
   rw [List.length_cons,List.range_succ_eq_map,List.map_cons,List.map_map]
   congr 1
   exact List.map_congr_left fun a _=>by simp;omega
  have h0:=h 0 x rfl
  rw [Nat.add_zero] at h0
  rw [e,List.countP_cons,List.countP_cons,h0,Ma p q l (n+1) fun i y hy=>by
   have:=h (i+1) y (by simpa using hy)
   rw [show n+1+i=n+(i+1) by omega]
   exact this]
structure SS (c:Cfg) (a:Arr) (sq:Int) (L:List Txt) (bd:List Bool):Prop where
 v:VS c a sq L (bdP bd)
 lf:a.left < 0
 bl:(bd.length:Int)=c.k+c.m
 al:(a.disks.length:Int)=c.k+c.m
 gd:∀ d:Nat,bd[d]? = some false→a.alive (d:Int)=true
 few:(bads bd:Int)≤c.m
theorem SS.good {c:Cfg} {a:Arr} {sq:Int} {L:List Txt} {bd:List Bool} (s:SS c a sq L bd):Gd c a (bdP bd):=by
 refine ⟨fun d=>decide (bd[d]? = some false),fun d hd h=> ?_,?_⟩
 ·have h:bd[d]? = some false:=by simpa using h
  exact ⟨s.gd d h,fun hb=>by unfold bdP at hb;rw [h] at hb;cases hb⟩
 ·have hl:a.disks.length=bd.length:=by have:=s.bl;have:=s.al;omega
  rw [hl]
  have h1:=Ma (fun b:Bool => !b) (fun d=>decide (bd[d]? = some false)) bd 0 fun i x hx=>by
   rw [Nat.zero_add,hx]
   cases x<;>simp
  have h2:(List.range bd.length).map (0 + ·)=List.range bd.length:=by simp
  rw [h2] at h1
  rw [h1]
  have h3:=List.length_eq_countP_add_countP (fun b:Bool=>b) (l:=bd)
  have h4:bd.countP (fun a=>decide ¬(a=true))=bd.countP (fun b => !b):=List.countP_congr fun x _=>by cases x<;>simp
  have:=s.few
  have:=s.bl
  unfold bads at *
  omega
theorem Ae5 {bd:List Bool} {d:Nat} (hd:d < bd.length) (b:Bool):bads (bd.set d b)+(if bd[d]=true then 1 else 0)=bads bd+if b=true then 1 else 0:=by
 unfold bads
 rw [List.countP_set hd]
 have:bd.countP (fun b=>b) ≥ if bd[d]=true then 1 else 0:=by
  split
  ·rename_i h
   exact List.countP_pos_iff.2 ⟨_,List.getElem_mem hd,h⟩
  ·exact Nat.zero_le _
 generalize bd.countP (fun b=>b)=N at this ⊢
 cases hb:bd[d]<;>cases b<;>simp only [hb,if_true,Bool.false_eq_true,if_false] at this ⊢<;>omega
def dmgR (c:Cfg) (a:Arr) (bd:List Bool) (o:OpD):Bool×Arr×List Bool :=
 if o.d < 0∨(bd.length:Int)≤o.d∨(bd[o.d.toNat]?.getD false=false∧c.m≤bads bd) then (false,a,bd)
 else if o.o=3∧((Dy o.s).2=0∨(a.Cd o.d o.n o.s).2≠0) then (false,a,bd)
 else (true,if o.o=3 then (a.Cd o.d o.n o.s).1 else if o.o=1 then (a.fail o.d).1 else a,bd.set o.d.toNat true)
theorem SS.dmg {c:Cfg} {a:Arr} {sq:Int} {L:List Txt} {bd:List Bool} (s:SS c a sq L bd) (o:OpD) (ho:o.o=1∨o.o=3):SS c (dmgR c a bd o).2.1 sq L (dmgR c a bd o).2.2:=by
 unfold dmgR
 split
 ·exact s
 rename_i h1
 split
 ·exact s
 rename_i h2
 obtain ⟨d,hd⟩:=Int.eq_ofNat_of_zero_le (show 0≤o.d by omega)
 have hdl:d < bd.length:=by omega
 have hda:d < a.disks.length:=by have:=s.bl;have:=s.al;omega
 rw [hd] at h1 h2 ⊢
 simp only [Int.toNat_natCast] at h1 ⊢
 have hmono:∀ e,bdP bd e→bdP (bd.set d true) e:=fun e he=>by
  unfold bdP at *
  rw [List.getElem?_set]
  split
  ·simp
  ·exact he
 have hbad:bdP (bd.set d true) d:=by unfold bdP;rw [List.getElem?_set];simp [hdl]
 have hfew:(bads (bd.set d true):Int)≤c.m:=by
  have h3:=Ae5 hdl true
  have h4:=s.few
  rw [List.getElem?_eq_getElem hdl] at h1
  simp only [Option.getD_some,if_true] at h1 h3
  by_cases hb:bd[d]=true
  ·rw [if_pos hb] at h3;omega
  ·rw [if_neg hb] at h3
   have hb':bd[d]=false:=by simpa using hb
   have:¬c.m≤(bads bd:Int):=fun h=>h1 (.inr (.inr ⟨hb',h⟩))
   omega
 have hne:∀ e:Nat,(bd.set d true)[e]? = some false→e≠d∧bd[e]? = some false:=fun e he=>by
  rw [List.getElem?_set] at he
  split at he
  ·simp at he
  ·rename_i h;exact ⟨fun h'=>h h'.symm,he⟩
 obtain ⟨⟨g,I,e,hL⟩,hdn,hq,hll⟩:=s.v
 have fin:∀ (b:Arr) (up:Bool),Inv c 7 g (bdP (bd.set d true)) none b→Dmg a b d up→SS c b sq L (bd.set d true):=fun b up I1 D =>
  ⟨⟨⟨g,I1,e,hL⟩,by rw [D.dn];exact hdn,D.qt hq,hll⟩,by rw [D.lf];exact s.lf,by rw [List.length_set];exact s.bl,by rw [D.len];exact s.al,fun f hf=>by
   obtain ⟨h3,h4⟩:=hne f hf
   rw [D.al,if_neg h3]
   exact s.gd f h4,hfew⟩
 rcases ho with ho|ho
 ·simp only [ho]
  simp
  obtain ⟨I1,D⟩:=I.fail hmono hda
  exact fin _ _ I1 D
 ·simp only [ho] at h2 ⊢
  simp only [if_true]
  have h3:(Dy o.s).2≠0:=fun h=>h2 ⟨trivial,.inl h⟩
  obtain ⟨I1,D⟩:=I.Cd hmono hda hbad o.n h3 hq
  exact fin _ _ I1 D
structure MI (c:Cfg) (a:Arr) (sq:Int) (L:List Txt) (bad:Nat→Prop) (i:Nat):Prop where
 ex:∃ g,Inv c 7 g bad none a∧g.sq=sq∧(∀ n:Nat,(n:Int) < c.st→L[n]? = some (g.tx n))∧∀ n:Nat,n < i→∀ d:Nat,(d:Int)∈Ab a a.disks.length→Lst 7 a d (stP c n) (stB 7 c n (g.ep n) (g.tx n) d)
 dn:a.down=false
 qt:Qt a
 ll:(L.length:Int)=c.st
theorem MI.step {c:Cfg} {a:Arr} {sq:Int} {L:List Txt} {bad:Nat→Prop} {i:Nat} (M:MI c a sq L bad i) (hi:(i:Int) < c.st) (G:Gd c a bad) (hlf:a.left < 0) (hs:sq+1 < 36028797018963968) :
  (Bj a 7 c i).2.2=0∧MI c (Bj a 7 c i).1 sq L bad (i+1)∧Stp a (Bj a 7 c i).1:=by
 obtain ⟨⟨g,I,rfl,hL,hD⟩,hdn,hq,hll⟩:=M
 obtain ⟨m1,m2,m3,m4,m5,m6,m7,m8⟩:=I.A8n hdn hi (G.of I hdn hi) hs hlf
 refine ⟨m1,⟨⟨g,m2,rfl,hL,fun n hn d hd=> ?_⟩,m4,m5,hll⟩,m3⟩
 rw [m3.Ab] at hd
 by_cases hni:n=i
 ·subst hni;exact m7 d hd
 ·exact m8 d _ _ (fun h=>hni (by unfold stP at h;omega)) (hD n ω d hd)
theorem MI.A8q {c:Cfg} {a:Arr} {sq:Int} {L:List Txt} {bad:Nat→Prop} {i:Nat} (M:MI c a sq L bad i) (hi:(i:Int)=c.st) (hlf:a.left < 0) :
  (B9 a 7 c).2.2=0∧(∀ bad',VS c (B9 a 7 c).1 sq L bad')∧Stp a (B9 a 7 c).1:=by
 obtain ⟨⟨g,I,rfl,hL,hD⟩,hdn,hq,hll⟩:=M
 obtain ⟨m1,m2,m3,m4,m5,m6,m7⟩:=I.Ae4 hdn hlf
 refine ⟨m1,fun bad'=>⟨⟨g,m2.good fun d hd hal=> .inr ?_,rfl,hL⟩,m4,m5,hll⟩,m3⟩
 have hmem:(d:Int)∈Ab a a.disks.length:=C5.2 ⟨d,rfl,by rw [←m3.len];exact hd,by rw [←m3.al];exact hal⟩
 exact ⟨m6 d hmem,fun n hn=>m7 d _ _ (by unfold stP;omega) (hD n ω d hmem)⟩
structure RS (c:Cfg) (a:Arr) (L0 L1:List Txt) (B:Int):Prop where
 ex:∃ g pd,Inv c 7 g (fun _=>False) pd a∧0≤g.sq∧(g.sq < B∧B≤1000)∧(∀ n:Nat,(n:Int) < c.st→L0[n]? = some (g.tx n))∧∀ P,pd=some P→L1=L0.set P.n P.t
 ll:(L0.length:Int)=c.st
theorem VS.rs {c:Cfg} {a:Arr} {sq:Int} {L:List Txt} (V:VS c a sq L (fun _=>False)) {B:Int} (hs:sq < B∧B≤1000) (L1:List Txt):RS c a L L1 B:=by
 obtain ⟨⟨g,I,rfl,hL⟩,hdn,hq,hll⟩:=V
 exact ⟨⟨g,none,I,I.s0,hs,hL,fun P h=>by cases h⟩,hll⟩
theorem Wt {c:Cfg} {a:Arr} (hdk:∀ x∈a.disks,DskG c x) (keep:List Bool):Qt (a.B3 keep)∧(a.B3 keep).down=false∧(a.B3 keep).left = -1∧(a.B3 keep).disks.length=a.disks.length∧∀ d:Nat,(a.B3 keep).alive (d:Int)=a.alive (d:Int):=by
 refine ⟨fun y hy=> ?_,rfl,rfl,Arr.Ph _ _,Wg (Arr.Ph _ _) fun d x hx=> ?_⟩
 ·obtain ⟨d,hd⟩:=List.getElem?_of_mem hy
  have hlt:d < a.disks.length:=by rw [←Arr.Ph a keep];exact (List.getElem?_eq_some_iff.1 hd).1
  obtain ⟨ks,hk⟩:=Jv a.disks keep d _ (List.getElem?_eq_getElem hlt)
  have hd':(Gp a.disks keep)[d]? = some y:=hd
  rw [hk] at hd'
  cases hd'
  exact Dsk.Ku (hdk _ (List.getElem_mem hlt)).gone _
 ·obtain ⟨ks,hk⟩:=Jv a.disks keep d x hx
  exact ⟨_,hk,Dsk.Gb _⟩
theorem RS.up {c:Cfg} {a:Arr} {L0 L1:List Txt} {B B':Int} (R:RS c a L0 L1 B) (h:B≤B'∧B'≤1000):RS c a L0 L1 B':=by
 obtain ⟨⟨g,pd,I,h1,h2,h3,h4⟩,hll⟩:=R
 exact ⟨⟨g,pd,I,h1,ω,h3,h4⟩,hll⟩
theorem RS.B3 {c:Cfg} {a:Arr} {L0 L1:List Txt} {B:Int} (R:RS c a L0 L1 B) (keep:List Bool):RS c (a.B3 keep) L0 L1 B∧Qt (a.B3 keep)∧(a.B3 keep).down=false∧(a.B3 keep).left = -1∧(a.B3 keep).disks.length=a.disks.length∧∀ d:Nat,(a.B3 keep).alive (d:Int)=a.alive (d:Int):=by
 obtain ⟨⟨g,pd,I,h1,h2,h3,h4⟩,hll⟩:=R
 exact ⟨⟨⟨g,pd,I.B3 keep,h1,h2,h3,h4⟩,hll⟩,Wt I.dk keep⟩
theorem RS.fuse {c:Cfg} {a:Arr} {L0 L1:List Txt} {B:Int} (R:RS c a L0 L1 B) (n:Int):RS c (a.fuse n) L0 L1 B:=by
 obtain ⟨⟨g,pd,I,h1,h2,h3,h4⟩,hll⟩:=R
 exact ⟨⟨g,pd,I.fuse n,h1,h2,h3,h4⟩,hll⟩
theorem RS.open_ {c:Cfg} {a:Arr} {L0 L1:List Txt} {B:Int} (R:RS c a L0 L1 B) (hdn:a.down=false) (Q:Qt a) (G:Gd c a (fun _=>False)):Kw a 7=some c∧Stp a (Bc a 7).ar ∧
  (((Bc a 7).er=0∧∃ sq L,(Bc a 7).vo=some (c,sq)∧0≤sq∧sq≤B∧VS c (Bc a 7).ar sq L (fun _=>False)∧(L=L0∨L=L1)) ∨
   ((Bc a 7).er=9∧(Bc a 7).vo=none∧(Bc a 7).ar.down=true∧¬a.left < 0∧RS c (Bc a 7).ar L0 L1 B)):=by
 obtain ⟨⟨g,pd,I,h1,h2,h3,h4⟩,hll⟩:=R
 have hC:=I.conf
 have hg:=G.one (by have:=Bd hC;omega)
 obtain ⟨S,w⟩:=I.A3m hdn Q hg ω
 refine ⟨I.head hdn hg,S,?_⟩
 rcases w with ⟨w1,w2,w3,⟨w4,w5⟩|⟨P,hP,w4,w5⟩⟩|⟨w1,w2,w3,w4,w5⟩
 ·exact .inl ⟨w1,g.sq,L0,w4,h1,ω,⟨⟨g,w5,rfl,h3⟩,w2,w3,hll⟩,.inl rfl⟩
 ·have hpn:=I.pn P hP
  refine .inl ⟨w1,g.sq+1,L1,w4,ω,ω,⟨⟨g.upd P.n P.t,w5,rfl,fun n hn=> ?_⟩,w2,w3,by rw [h4 P hP,List.length_set];exact hll⟩,.inr rfl⟩
  rw [h4 P hP,List.getElem?_set]
  simp only [Gh.upd]
  by_cases hnp:n=P.n
  ·rw [if_pos hnp.symm,if_pos hnp,if_pos ω]
  ·rw [if_neg (fun h=>hnp h.symm),if_neg hnp];exact h3 n hn
 ·refine .inr ⟨w1,w2,w3,w4,?_⟩
  rcases w5 with w5|⟨P,b,hP,w5⟩
  ·exact ⟨⟨g,none,w5,h1,h2,h3,fun P h=>by cases h⟩,hll⟩
  ·exact ⟨⟨g,_,w5,h1,h2,h3,fun P' h=>by cases h;exact h4 P hP⟩,hll⟩
theorem VS.writeF {c:Cfg} {a:Arr} {sq:Int} {L:List Txt} (V:VS c a sq L (fun _=>False)) (hk:c.k≤((Ab a a.disks.length).length:Int)) (hs0:0≤sq) {B:Int} (hs:sq < B∧B≤1000) (n:Int) (t:Txt):Stp a (Am a 7 c sq n t).1 ∧
  (((Am a 7 c sq n t).2.2=mWrE c n t∧(Am a 7 c sq n t).2.1=(if mWrE c n t=0 then sq+1 else sq)∧VS c (Am a 7 c sq n t).1 (Am a 7 c sq n t).2.1 (mWr c L n t) (fun _=>False)) ∨
   ((Am a 7 c sq n t).2.2=9∧mWrE c n t=0∧(Am a 7 c sq n t).2.1=sq∧RS c (Am a 7 c sq n t).1 L (mWr c L n t) B)):=by
 by_cases hw:mWrE c n t=0
 ·have hn:¬(n < 0∨c.st≤n):=fun h=>by unfold mWrE at hw;rw [if_pos h] at hw;cases hw
  have ht:¬Aw c < t.length:=fun h=>by unfold mWrE at hw;rw [if_neg hn,if_pos h] at hw;cases hw
  obtain ⟨⟨g,I,rfl,hL⟩,hdn,hq,hll⟩:=V
  obtain ⟨k,rfl⟩:=Int.eq_ofNat_of_zero_le (show 0≤n by omega)
  obtain ⟨S,w⟩:=I.write hdn (n:=k) (t:=t) ω ω ω hk
  refine ⟨S,?_⟩
  have e:mWr c L k t=L.set k t:=by unfold mWr;rw [if_pos hw,Int.toNat_natCast]
  rw [hw,e]
  rcases w with ⟨w1,w2,w3,w4⟩|⟨w1,w2,w3,b,w4⟩
  ·refine .inl ⟨by rw [w1],by rw [w1];rfl,⟨⟨g.upd k t,w3,by rw [w1];rfl,fun m hm=> ?_⟩,w2,w4,by rw [List.length_set];exact hll⟩⟩
   rw [List.getElem?_set]
   simp only [Gh.upd]
   by_cases hmk:m=k
   ·rw [if_pos hmk.symm,if_pos hmk,if_pos ω]
   ·rw [if_neg (fun h=>hmk h.symm),if_neg hmk];exact hL m hm
  ·exact .inr ⟨by rw [w1],rfl,by rw [w1],⟨⟨g,_,w4,hs0,ω,hL,fun P h=>by cases h;rfl⟩,hll⟩⟩
 ·have e1:mWr c L n t=L:=by unfold mWr;rw [if_neg hw]
  have e:Am a 7 c sq n t=(a,sq,mWrE c n t):=by
   unfold mWrE at hw ⊢
   unfold Am
   split at hw
   ·rename_i h;rw [if_pos h,if_pos h]
   ·rename_i h
    split at hw
    ·rename_i h2;rw [if_neg h,if_neg h,if_pos h2,if_pos h2]
    ·exact (hw rfl).elim
  rw [e,e1,if_neg hw]
  exact ⟨Stp.refl a,.inl ⟨rfl,rfl,V⟩⟩
end Go.Proofs.YtmbndhciflilbaaGreatDoor.X
namespace Go.Proofs.YtmbndhciflilbaaGreatDoor.X
open F
set_option linter.unusedSimpArgs false
set_option linter.unusedVariables false
structure RepD where
 nx:Int
 me:Int
 lo:Int
 dn:Bool
def rep0:RepD:=⟨0,0,0,false⟩
def addE (e:Int):Int:=if e=10 then 0 else e
def addR (r:RepD) (many e:Int):RepD:=⟨r.nx,r.me+many,if e=10 then r.lo+1 else r.lo,r.dn⟩
structure ScD where
 ar:Arr
 rp:RepD
 er:Int
def D8 (id:Int) (c:Cfg):Nat→Arr→RepD→ScD
 | 0,a,r=>⟨a,⟨r.nx,r.me,r.lo,decide (r.nx=c.st)⟩,0⟩
 | n+1,a,r =>
  if addE (Bj a id c r.nx).2.2≠0 then ⟨(Bj a id c r.nx).1,rep0,addE (Bj a id c r.nx).2.2⟩
  else D8 id c n (Bj a id c r.nx).1 ⟨r.nx+1,(addR r (Bj a id c r.nx).2.1 (Bj a id c r.nx).2.2).me,(addR r (Bj a id c r.nx).2.1 (Bj a id c r.nx).2.2).lo,r.dn⟩
def De (a:Arr) (id:Int) (c:Cfg) (fr many:Int):ScD :=
 if fr < 0∨c.st < fr∨many < 1 then ⟨a,rep0,1⟩
 else if fr=0 then
  (if addE (B9 a id c).2.2≠0 then ⟨(B9 a id c).1,rep0,addE (B9 a id c).2.2⟩
   else D8 id c (min many (c.st - fr)).toNat (B9 a id c).1 (addR ⟨fr,0,0,false⟩ (B9 a id c).2.1 (B9 a id c).2.2))
 else D8 id c (min many (c.st - fr)).toNat a ⟨fr,0,0,false⟩
def Ex (a:Arr) (id:Int) (c:Cfg):ScD:=De a id c 0 (max c.st 1)
def Fa (a:Arr) (id:Int) (c:Cfg):Nat→Int→Int×Int
 | 0,l=>(l,0)
 | n+1,l=>if (Fa a id c n l).2≠0 then Fa a id c n l else if (Jx a id c n).2≠0 then (0,(Jx a id c n).2) else (min (Fa a id c n l).1 (Jx a id c n).1,0)
def Tc (a:Arr) (id:Int) (c:Cfg):Int×Int:=Fa a id c c.st.toNat 255
def SA (a b:Arr) (d p:Nat):Prop:= ∀ x,a.disks[d]? = some x→∃ y,b.disks[d]? = some y∧y.gone=x.gone∧y.secs.length=x.secs.length∧y.at_ p=x.at_ p
theorem SA.refl (a:Arr) (d p:Nat):SA a a d p:=fun x hx=>⟨x,hx,rfl,rfl,rfl⟩
theorem SA.trans {a b c:Arr} {d p:Nat} (h:SA a b d p) (k:SA b c d p):SA a c d p:=fun x hx=>by
 obtain ⟨y,h1,h2,h3,h4⟩:=h x hx
 obtain ⟨z,k1,k2,k3,k4⟩:=k y h1
 exact ⟨z,k1,k2.trans h2,k3.trans h3,k4.trans h4⟩
theorem SA.dsks {a b:Arr} (h:b.disks=a.disks) (d p:Nat):SA a b d p:=fun x hx=>⟨x,by rw [h];exact hx,rfl,rfl,rfl⟩
theorem SA.write {a:Arr} {d p:Nat} {i j:Int} {s:Txt} (h:¬(i=d∧j=p)):SA a (a.write i j s) d p:=by
 intro x hx
 unfold Arr.write
 split
 ·exact ⟨x,hx,rfl,rfl,rfl⟩
 split
 ·exact ⟨x,hx,rfl,rfl,rfl⟩
 rename_i y hy
 split
 ·exact ⟨x,hx,rfl,rfl,rfl⟩
 split
 ·exact ⟨x,hx,rfl,rfl,rfl⟩
 rename_i hc _
 have hy':0≤i∧a.disks[i.toNat]? = some y:=by unfold Arr.on? at hy;split at hy;exact ⟨by assumption,hy⟩;cases hy
 show ∃ z,(a.disks.set i.toNat (y.write j s))[d]? = some z∧_
 rw [List.getElem?_set]
 by_cases hd:i.toNat=d
 ·have hxy:x=y:=by rw [←hd,hy'.2] at hx;exact (Option.some.inj hx).symm
  subst hxy
  rw [if_pos hd,if_pos (List.getElem?_eq_some_iff.1 hy'.2).1]
  have hw:x.write j s = { x with waits:=x.waits ++ [(j,s)] } := by unfold Dsk.write;rw [if_pos (by simpa using hc)]
  refine ⟨_,rfl,by rw [hw],by rw [hw],?_⟩
  rw [hw]
  unfold Dsk.at_
  simp only
  rw [T6,if_neg (fun e=>h ⟨ω,e⟩)]
 ·rw [if_neg hd];exact ⟨x,hx,rfl,rfl,rfl⟩
theorem SA.vput {a:Arr} {b:BlkD} {d p:Nat} (h:¬(b.dk=d∧b.pl=p)):SA a (vput a b) d p:=by
 unfold Go.Proofs.YtmbndhciflilbaaGreatDoor.X.vput
 split
 ·exact SA.write h
 ·exact SA.refl _ _ _
theorem SA.puts {d p:Nat} : ∀ (bs:List BlkD) {a:Arr},(∀ b∈bs,¬(b.dk=d∧b.pl=p))→SA a (puts bs a).1 d p
 | [],a,_=>SA.refl _ _ _
 | b :: bs,a,h=>by
  have h1:SA a (Go.Proofs.YtmbndhciflilbaaGreatDoor.X.vput a b) d p:=SA.vput (h b (List.mem_cons_self ..))
  rw [Go.Proofs.YtmbndhciflilbaaGreatDoor.X.puts]
  split
  ·exact h1.trans (SA.puts bs fun b' hb'=>h b' (List.mem_cons_of_mem _ hb'))
  ·exact h1
theorem SA.flush {c:Cfg} {a:Arr} (hdk:∀ x∈a.disks,DskG c x) {d p:Nat} (hp:(p:Int) < 1+c.sl+c.st):SA a a.flush d p:=by
 intro x hx
 unfold Arr.flush
 split
 ·exact ⟨x,hx,rfl,rfl,rfl⟩
 have hG:=hdk x (List.mem_of_getElem? hx)
 refine ⟨x.flush,by simp [hx],Dsk.Gb _,Dsk.Hb _,?_⟩
 cases hg:x.gone with
 | true=>unfold Dsk.flush Dsk.B3;rw [if_pos hg]
 | false=>exact Dsk.Adw hg hG.waits (by have:=hG.secs;omega)
theorem SA.shs {c:Cfg} {id:Int} {a:Arr} (hC:Ax c) {n:Nat} (hn:(n:Int) < c.st) {e:Int} {t:Txt} {ds:List Int} {d p:Nat} (h:p≠stP c n):SA a (vshR a id c n e t ds).1 d p:=by
 unfold vshR
 split
 ·rw [He]
  refine SA.puts _ fun b hb=> ?_
  obtain ⟨d',_,rfl⟩:=List.mem_map.1 hb
  intro hbp
  have:Au c n=(p:Int):=hbp.2
  rw [Er hC hn] at this
  omega
 ·exact SA.refl _ _ _
theorem Ahd {p:Arr×Int} {f:Arr→Arr×Int} {a:Arr} {d q:Nat} (h:SA a p.1 d q) (hf:SA p.1 (f p.1).1 d q):SA a (tryR p f).1 d q:=by
 unfold tryR
 split
 ·exact h.trans hf
 ·exact h
theorem SA.A8n {c:Cfg} {id:Int} {g:Gh} {bad:Nat→Prop} {a:Arr} (I:Inv c id g bad none a) (hdn:a.down=false) {n:Nat} (hn:(n:Int) < c.st) (hk:c.k≤ofN (stE a id c n) (g.ep n)) (hs:g.sq+1 < 36028797018963968) {d p:Nat} (h:p≠stP c n) (hp:(p:Int) < 1+c.sl+c.st):SA a (Bj a id c n).1 d p:=by
 have hge:=I.ge n hn
 have hr:=I.A3h hdn hn
 have hl:=I.look hdn hn
 rw [if_pos hk] at hr hl
 unfold Gc at hr
 rw [hl] at hr
 simp only [if_true] at hr
 obtain ⟨I1,S1,w⟩:=I.shs hdn hn (e:=g.ep n) (t:=g.tx n) ω hs hge.2.2 (.inl ⟨rfl,rfl⟩) (ds:=Gt a (ofH (stE a id c n) (g.ep n))) fun d hd=>(List.mem_filter.1 hd).1
 have key:SA a (tryR (vshR a id c n (g.ep n) (g.tx n) (Gt a (ofH (stE a id c n) (g.ep n)))) Bv).1 d p :=
  Ahd (SA.shs I.conf hn h) (SA.flush I1.dk hp)
 unfold Bj
 rw [hl]
 simp only
 rw [if_neg μ,hr]
 simp only
 rw [if_neg μ]
 split<;>exact key
theorem Lst.sa {id:Int} {a b:Arr} {d p:Nat} {bk:BlkD} (h:Lst id a d p bk) (S:SA a b d p):Lst id b d p bk:=by
 obtain ⟨x,h1,h2,h3,h4⟩:=h
 obtain ⟨y,k1,k2,k3,k4⟩:=S x h1
 exact ⟨y,k1,by rw [k2];exact h2,by rw [k3];exact h3,by rw [k4];exact h4⟩
def UnA (a:Arr) (d p:Nat):Prop:= ∃ x,a.disks[d]? = some x∧x.gone=false∧p < x.secs.length∧Un 7 d p (x.at_ p)
theorem UnA.sa {a b:Arr} {d p:Nat} (h:UnA a d p) (S:SA a b d p):UnA b d p:=by
 obtain ⟨x,h1,h2,h3,h4⟩:=h
 obtain ⟨y,k1,k2,k3,k4⟩:=S x h1
 exact ⟨y,k1,by rw [k2];exact h2,by rw [k3];exact h3,by rw [k4];exact h4⟩
theorem UnA.get {c:Cfg} {a:Arr} (hdn:a.down=false) (hdk:∀ x∈a.disks,DskG c x) (hsz:0≤c.k * c.sh+42) {d p:Nat} (h:UnA a d p):(Cn a 7 d p).2=false:=by
 obtain ⟨x,h1,h2,h3,h4⟩:=h
 rw [Hg hdn hdk hsz h1 h2 h3]
 have:(Cm (x.at_ p) 7 d p).2≠0:=h4
 simp [this]
structure EX (c:Cfg) (a:Arr) (sq:Int) (L:List Txt) (X:Nat→Nat→Bool):Prop where
 ex:∃ g,Inv c 7 g (fun _=>True) none a∧g.sq=sq∧(∀ n:Nat,(n:Int) < c.st→L[n]? = some (g.tx n)) ∧
  ∀ d:Nat,d < a.disks.length→(X d 0=false→Lst 7 a d 0 (hdB 7 d c))∧(X d 0=true→UnA a d 0) ∧
   ∀ n:Nat,(n:Int) < c.st→(X d (stP c n)=false→Lst 7 a d (stP c n) (stB 7 c n (g.ep n) (g.tx n) d))∧(X d (stP c n)=true→UnA a d (stP c n))
 dn:a.down=false
 qt:Qt a
 ll:(L.length:Int)=c.st
 al:∀ d:Nat,d < a.disks.length→a.alive (d:Int)=true
 lf:a.left < 0
def cntX (X:Nat→Nat→Bool) (N p:Nat):Nat:=(List.range N).countP fun d=>X d p
def clr (X:Nat→Nat→Bool) (q:Nat):Nat→Nat→Bool:=fun d p=>if p=q then false else X d p
theorem Aak {a:Arr} {hv:List Bool} (hal:∀ d:Nat,d < a.disks.length→a.alive (d:Int)=true) (q:Nat→Bool) (h:∀ d:Nat,d < a.disks.length→hv[d]?.getD false = !q d):(Gt a hv).length=(List.range a.disks.length).countP q:=by
 have e:Ab a a.disks.length=(List.range a.disks.length).map fun d:Nat=>(d:Int):=by
  unfold Ab
  rw [List.filter_eq_self.2 fun d hd=>hal d (List.mem_range.1 hd)]
 unfold Gt
 rw [e,←List.countP_eq_length_filter,List.countP_map]
 refine List.countP_congr fun d hd=> ?_
 have:=h d (List.mem_range.1 hd)
 simp [this]
theorem EX.ofN {c:Cfg} {a:Arr} {g:Gh} {X:Nat→Nat→Bool} (I:Inv c 7 g (fun _=>True) none a) (hdn:a.down=false) {n:Nat} (hn:(n:Int) < c.st) (h:∀ d:Nat,d < a.disks.length→(X d (stP c n)=false→Lst 7 a d (stP c n) (stB 7 c n (g.ep n) (g.tx n) d))∧(X d (stP c n)=true→UnA a d (stP c n))) :
  (∀ d:Nat,d < a.disks.length→(Cz a 7 c n d).2=if X d (stP c n)=true then -1 else g.ep n)∧Go.Proofs.YtmbndhciflilbaaGreatDoor.X.ofN (stE a 7 c n) (g.ep n)+cntX X a.disks.length (stP c n)=a.disks.length:=by
 have hge:=I.ge n hn
 have hl:=I.len
 have h1:∀ d:Nat,d < a.disks.length→(Cz a 7 c n d).2=if X d (stP c n)=true then -1 else g.ep n:=fun d hd=>by
  obtain ⟨k1,k2⟩:=h d hd
  by_cases hx:X d (stP c n)=true
  ·rw [if_pos hx,Rm (by rw [Er I.conf hn];exact (k2 hx).get hdn I.dk I.sz)]
  ·rw [if_neg hx,Rk I.conf hdn I.dk hn ω hge.2.2 (k1 (by simpa using hx))]
 refine ⟨h1,?_⟩
 rw [Uq]
 unfold cntX
 have:(List.range a.disks.length).countP (fun d:Nat=>decide ((Cz a 7 c n d).2=g.ep n))=(List.range a.disks.length).countP (fun d => !X d (stP c n)):=List.countP_congr fun d hd=>by
  rw [h1 d (List.mem_range.1 hd)]
  cases X d (stP c n)
  ·simp
  ·simp;omega
 rw [this]
 have h3:=List.length_eq_countP_add_countP (fun d:Nat=>X d (stP c n)) (l:=List.range a.disks.length)
 have h4:(List.range a.disks.length).countP (fun d=>decide ¬(X d (stP c n)=true))=(List.range a.disks.length).countP (fun d => !X d (stP c n)):=List.countP_congr fun d _=>by cases X d (stP c n)<;>simp
 rw [List.length_range] at h3
 omega
theorem EX.mend {c:Cfg} {a:Arr} {sq:Int} {L:List Txt} {X:Nat→Nat→Bool} (E:EX c a sq L X) {n:Nat} (hn:(n:Int) < c.st) (hs:sq+1 < 36028797018963968) :
  if c.k+cntX X a.disks.length (stP c n)≤a.disks.length then (Bj a 7 c n).2=(((cntX X a.disks.length (stP c n):Nat):Int),0)∧EX c (Bj a 7 c n).1 sq L (clr X (stP c n))∧(Bj a 7 c n).1.disks.length=a.disks.length
  else Bj a 7 c n=(a,0,10):=by
 obtain ⟨⟨g,I,rfl,hL,hX⟩,hdn,hq,hll,hal,hlf⟩:=E
 obtain ⟨h1,h2⟩:=EX.ofN I hdn hn fun d hd=>(hX d hd).2.2 n hn
 have hge:=I.ge n hn
 split
 ·rename_i hk
  have hk':c.k≤Go.Proofs.YtmbndhciflilbaaGreatDoor.X.ofN (stE a 7 c n) (g.ep n):=by omega
  obtain ⟨m1,m2,m3,m4,m5,m6,m7,m8⟩:=I.A8n hdn hn hk' hs hlf
  have hsa:=fun {d p:Nat} (h:p≠stP c n) (hp:(p:Int) < 1+c.sl+c.st)=>SA.A8n (d:=d) I hdn hn hk' hs h hp
  have hlen:=m3.len
  refine ⟨Prod.ext ?_ m1,⟨⟨g,m2,rfl,hL,fun d hd=> ?_⟩,m4,m5,hll,fun d hd=>by rw [m3.al];exact hal d (by rw [←m3.len];exact hd),m3.neg hlf⟩,hlen⟩
  ·rw [m6,Aak hal (fun d=>X d (stP c n)) fun d hd=> ?_]
   ·rfl
   ·unfold ofH
    rw [Ld,List.getElem?_map,List.getElem?_map,List.getElem?_range hd]
    have:=h1 d hd
    simp only [Option.map_some,Option.getD_some,this]
    cases X d (stP c n)
    ·simp
    ·simp;omega
  ·rw [hlen] at hd
   have hc1:=Bd I.conf
   obtain ⟨k1,k2,k3⟩:=hX d hd
   have hmem:(d:Int)∈Ab a a.disks.length:=C5.2 ⟨d,rfl,hd,hal d hd⟩
   have h0:(0:Nat)≠stP c n:=by unfold stP;omega
   refine ⟨fun hx=> ?_,fun hx=> ?_,fun m hm=>⟨fun hx=> ?_,fun hx=> ?_⟩⟩
   ·unfold clr at hx;rw [if_neg h0] at hx
    exact (k1 hx).sa (hsa h0 (by show (0:Int) < _;omega))
   ·unfold clr at hx;rw [if_neg h0] at hx
    exact (k2 hx).sa (hsa h0 (by show (0:Int) < _;omega))
   ·by_cases hmn:m=n
    ·subst hmn;exact m7 d hmem
    ·have hne:stP c m≠stP c n:=by unfold stP;omega
     unfold clr at hx;rw [if_neg hne] at hx
     exact ((k3 m hm).1 hx).sa (hsa hne (by unfold stP;push_cast;omega))
   ·by_cases hmn:m=n
    ·subst hmn;unfold clr at hx;rw [if_pos rfl] at hx;cases hx
    ·have hne:stP c m≠stP c n:=by unfold stP;omega
     unfold clr at hx;rw [if_neg hne] at hx
     exact ((k3 m hm).2 hx).sa (hsa hne (by unfold stP;push_cast;omega))
 ·rename_i hk
  have hl:=I.look hdn hn
  rw [if_neg ω] at hl
  unfold Bj
  rw [hl]
  simp
end Go.Proofs.YtmbndhciflilbaaGreatDoor.X
namespace Go.Proofs.YtmbndhciflilbaaGreatDoor.X
open F
set_option linter.unusedSimpArgs false
set_option linter.unusedVariables false
theorem Ahe {c:Cfg} {a:Arr} (hdn:a.down=false) (hdk:∀ x∈a.disks,DskG c x) (hsz:0≤c.k * c.sh+42) {d:Nat} : (Lst 7 a d 0 (hdB 7 d c)→isHd a 7 d c)∧(UnA a d 0→¬isHd a 7 d c):=by
 refine ⟨fun ⟨x,h1,h2,h3,h4⟩=> ?_,fun h hh=> ?_⟩
 ·have e:=Hg (id:=7) hdn hdk hsz h1 h2 h3
  have h4:Cm (x.at_ (0:Nat)) 7 d (0:Nat)=(hdB 7 d c,0):=h4
  rw [h4] at e
  have e:Cn a 7 d 0=(hdB 7 d c,true):=e
  unfold isHd
  rw [e]
  exact ⟨rfl,rfl⟩
 ·have:=h.get hdn hdk hsz
  have h1:=hh.1
  have this:(Cn a 7 d 0).2=false:=this
  rw [this] at h1
  cases h1
theorem Qf {c:Cfg} {g:Gh} {bad:Nat→Prop} {Y:Nat→Bool} : ∀ (l:List Nat) {a:Arr} (m:Int),Inv c 7 g bad none a→a.down=false→a.left < 0→l.Nodup→(∀ d∈l,d < a.disks.length∧a.alive (d:Int)=true∧(Y d=false→Lst 7 a d 0 (hdB 7 d c))∧(Y d=true→UnA a d 0)) →
  (Cg 7 c a m (l.map fun d:Nat=>(d:Int))).2.1=m+(l.countP Y:Nat)∧∀ d p:Nat,p≠0→SA a (Cg 7 c a m (l.map fun d:Nat=>(d:Int))).1 d p
 | [],a,m,_,_,_,_,_=>⟨by simp [Cg],fun d p _=>SA.refl _ _ _⟩
 | e :: l,a,m,I,hdn,hlf,hnd,h=>by
  obtain ⟨hel,hal,h1,h2⟩:=h e (List.mem_cons_self ..)
  obtain ⟨q1,q2⟩:=Ahe (c:=c) hdn I.dk I.sz (d:=e)
  have hnd':=List.nodup_cons.1 hnd
  rw [List.map_cons,Cg,List.countP_cons]
  cases hY:Y e with
  | false =>
   rw [if_pos (q1 (h1 hY))]
   obtain ⟨i1,i2⟩:=Qf l m I hdn hlf hnd'.2 fun d hd=>h d (List.mem_cons_of_mem _ hd)
   exact ⟨by rw [i1];simp,i2⟩
  | true =>
   rw [if_neg (q2 (h2 hY))]
   obtain ⟨I1,S1,w⟩:=I.put hdn (I.putH hel hal)
   rcases w with ⟨w1,w2,w3,w4⟩|⟨_,_,w3⟩
   rotate_left
   ·exact (w3 hlf).elim
   rw [if_pos w1]
   have sa:∀ d p:Nat,¬(e=d∧p=0)→SA a (vput a (hdB 7 e c)) d p:=fun d p hne=>SA.vput fun hbp=>hne (by
    have h1:(e:Int)=d:=hbp.1
    have h2:(0:Int)=p:=hbp.2
    omega)
   obtain ⟨i1,i2⟩:=Qf l (m+1) I1 w2 (S1.neg hlf) hnd'.2 fun d hd=>by
    obtain ⟨k1,k2,k3,k4⟩:=h d (List.mem_cons_of_mem _ hd)
    have hne:¬(e=d∧(0:Nat)=0):=fun hh=>hnd'.1 (hh.1 ▸ hd)
    exact ⟨by rw [S1.len];exact k1,by rw [S1.al];exact k2,fun hy=>(k3 hy).sa (sa d 0 hne),fun hy=>(k4 hy).sa (sa d 0 hne)⟩
   refine ⟨by rw [i1];simp;omega,fun d p hp=>(sa d p fun hh=>hp hh.2).trans (i2 d p hp)⟩
theorem A1t {a:Arr} (hal:∀ d:Nat,d < a.disks.length→a.alive (d:Int)=true):Ab a a.disks.length=(List.range a.disks.length).map fun d:Nat=>(d:Int):=by
 unfold Ab
 rw [List.filter_eq_self.2 fun d hd=>hal d (List.mem_range.1 hd)]
theorem EX.A8q {c:Cfg} {a:Arr} {sq:Int} {L:List Txt} {X:Nat→Nat→Bool} (E:EX c a sq L X):(B9 a 7 c).2=(((cntX X a.disks.length 0:Nat):Int),0)∧EX c (B9 a 7 c).1 sq L (clr X 0)∧(B9 a 7 c).1.disks.length=a.disks.length:=by
 obtain ⟨⟨g,I,rfl,hL,hX⟩,hdn,hq,hll,hal,hlf⟩:=E
 obtain ⟨m1,m2,m3,m4,m5,m6,m7⟩:=I.Ae4 hdn hlf
 have hc1:=Bd I.conf
 obtain ⟨n1,n2⟩:=Qf (Y:=fun d=>X d 0) (List.range a.disks.length) 0 I hdn hlf List.nodup_range fun d hd=>⟨List.mem_range.1 hd,hal d (List.mem_range.1 hd),(hX d (List.mem_range.1 hd)).1,(hX d (List.mem_range.1 hd)).2.1⟩
 rw [←A1t hal] at n1 n2
 obtain ⟨i1,i2,i3,i4,i5,i6⟩:=Pg (Ab a a.disks.length) 0 I hdn hlf fun d hd=>hd
 have hpw:(Cg 7 c a 0 (Ab a a.disks.length)).1.Kv=0:=by unfold Arr.Kv;simp [i4]
 have ev:B9 a 7 c=((Cg 7 c a 0 (Ab a a.disks.length)).1.flush,(Cg 7 c a 0 (Ab a a.disks.length)).2.1,0):=by
  unfold B9
  rw [if_neg (by simp [hdn])]
  simp only
  rw [if_pos i3,if_pos hpw]
 have hlen:=m3.len
 have sa:∀ d p:Nat,p≠0→(p:Int) < 1+c.sl+c.st→SA a (B9 a 7 c).1 d p:=fun d p hp hp2=>by
  rw [ev]
  exact (n2 d p hp).trans (SA.flush i1.dk hp2)
 refine ⟨by rw [ev,n1];unfold cntX;simp,⟨⟨g,m2,rfl,hL,fun d hd=> ?_⟩,m4,m5,hll,fun d hd=>by rw [m3.al];exact hal d (by rw [←m3.len];exact hd),m3.neg hlf⟩,hlen⟩
 rw [hlen] at hd
 obtain ⟨k1,k2,k3⟩:=hX d hd
 have hmem:(d:Int)∈Ab a a.disks.length:=C5.2 ⟨d,rfl,hd,hal d hd⟩
 refine ⟨fun _=> ?_,fun hx=>(by unfold clr at hx;rw [if_pos rfl] at hx;cases hx),fun m hm=>⟨fun hx=> ?_,fun hx=> ?_⟩⟩
 ·obtain ⟨x,h1,h2,h3,h4⟩:=m6 d hmem
  exact ⟨x,h1,h2,h3,h4 _ (Dsk.Kt h3)⟩
 ·have hne:stP c m≠0:=by unfold stP;omega
  unfold clr at hx;rw [if_neg hne] at hx
  exact ((k3 m hm).1 hx).sa (sa d _ hne (by unfold stP;push_cast;omega))
 ·have hne:stP c m≠0:=by unfold stP;omega
  unfold clr at hx;rw [if_neg hne] at hx
  exact ((k3 m hm).2 hx).sa (sa d _ hne (by unfold stP;push_cast;omega))
def okX (c:Cfg) (N:Nat) (X:Nat→Nat→Bool) (n:Nat):Prop:=c.k+cntX X N (stP c n)≤N
instance (c:Cfg) (N:Nat) (X:Nat→Nat→Bool) (n:Nat):Decidable (okX c N X n):=by unfold okX;exact inferInstance
def oneX (c:Cfg) (N:Nat) (X:Nat→Nat→Bool) (n:Nat):Nat→Nat→Bool:=if okX c N X n then clr X (stP c n) else X
def afX (c:Cfg) (N:Nat):Nat→Nat→(Nat→Nat→Bool)→(Nat→Nat→Bool)
 | 0,_,X=>X
 | k+1,n,X=>afX c N k (n+1) (oneX c N X n)
def meX (c:Cfg) (N:Nat):Nat→Nat→(Nat→Nat→Bool)→Nat
 | 0,_,_=>0
 | k+1,n,X=>(if okX c N X n then cntX X N (stP c n) else 0)+meX c N k (n+1) (oneX c N X n)
def loX (c:Cfg) (N:Nat):Nat→Nat→(Nat→Nat→Bool)→Nat
 | 0,_,_=>0
 | k+1,n,X=>(if okX c N X n then 0 else 1)+loX c N k (n+1) (oneX c N X n)
theorem EX.D8 {c:Cfg} {sq:Int} {L:List Txt} (hs:sq+1 < 36028797018963968):∀ (k n:Nat) {a:Arr} {X:Nat→Nat→Bool} {r:RepD},EX c a sq L X→r.nx=n→((n+k:Nat):Int)≤c.st →
  (D8 7 c k a r).er=0∧EX c (D8 7 c k a r).ar sq L (afX c a.disks.length k n X)∧(D8 7 c k a r).ar.disks.length=a.disks.length ∧
  (D8 7 c k a r).rp=⟨((n+k:Nat):Int),r.me+(meX c a.disks.length k n X:Nat),r.lo+(loX c a.disks.length k n X:Nat),decide (((n+k:Nat):Int)=c.st)⟩
 | 0,n,a,X,r,E,hr,_=>⟨rfl,E,rfl,by simp [Go.Proofs.YtmbndhciflilbaaGreatDoor.X.D8,hr,meX,loX]⟩
 | k+1,n,a,X,r,E,hr,hk=>by
  have hn:(n:Int) < c.st:=by omega
  have hm:=E.mend hn hs
  rw [Go.Proofs.YtmbndhciflilbaaGreatDoor.X.D8,hr]
  have e1:((n:Int)+1)=((n+1:Nat):Int):=by push_cast;rfl
  have e2:n+1+k=n+(k+1):=by omega
  by_cases hok:okX c a.disks.length X n
  ·have hok':c.k+cntX X a.disks.length (stP c n)≤a.disks.length:=hok
   rw [if_pos hok'] at hm
   obtain ⟨m1,m2,m3⟩:=hm
   have ho:oneX c a.disks.length X n=clr X (stP c n):=by unfold oneX;rw [if_pos hok]
   rw [m1]
   simp only [addE,addR]
   rw [if_neg μ]
   obtain ⟨i1,i2,i3,i4⟩:=EX.D8 hs k (n+1) (r:=⟨(n:Int)+1,r.me+((cntX X a.disks.length (stP c n):Nat):Int),if (0:Int)=10 then r.lo+1 else r.lo,r.dn⟩) m2 e1 (by rw [e2];exact hk)
   refine ⟨i1,?_,by rw [i3,m3],?_⟩
   ·rw [m3] at i2
    rw [afX,ho]
    exact i2
   ·rw [i4,m3,e2,meX,loX,ho,if_pos hok,if_pos hok]
    simp
    omega
  ·have hok':¬c.k+cntX X a.disks.length (stP c n)≤a.disks.length:=hok
   rw [if_neg hok'] at hm
   have ho:oneX c a.disks.length X n=X:=by unfold oneX;rw [if_neg hok]
   rw [hm]
   simp only [addE,addR]
   rw [if_neg μ]
   obtain ⟨i1,i2,i3,i4⟩:=EX.D8 hs k (n+1) (r:=⟨(n:Int)+1,r.me+0,if True then r.lo+1 else r.lo,r.dn⟩) E e1 (by rw [e2];exact hk)
   refine ⟨i1,?_,i3,?_⟩
   ·rw [afX,ho]
    exact i2
   ·rw [i4,e2,meX,loX,ho,if_neg hok,if_neg hok]
    simp
    omega
end Go.Proofs.YtmbndhciflilbaaGreatDoor.X
namespace Go.Proofs.YtmbndhciflilbaaGreatDoor.X
open F
set_option linter.unusedSimpArgs false
set_option linter.unusedVariables false
theorem VS.exx {c:Cfg} {a:Arr} {sq:Int} {L:List Txt} (V:VS c a sq L (fun _=>False)) (hlf:a.left < 0) (hal:∀ d:Nat,d < a.disks.length→a.alive (d:Int)=true):EX c a sq L (fun _ _=>false):=by
 obtain ⟨⟨g,I,e,hL⟩,hdn,hq,hll⟩:=V
 refine ⟨⟨g,I.good fun d _ _=> .inl fun h=>h.elim,e,hL,fun d hd=>⟨fun _=> ?_,fun h=>(by cases h),fun n hn=>⟨fun _=> ?_,fun h=>(by cases h)⟩⟩⟩,hdn,hq,hll,hal,hlf⟩
 ·rcases I.hd1 hdn (hal d hd) with ⟨h,_⟩|⟨h,_⟩
  ·exact h
  ·exact h.elim
 ·rcases I.st1 hdn hn hd with ⟨h,_⟩|⟨_,h⟩
  ·exact h
  ·exact (h (hal d hd)).elim
theorem EX.vs {c:Cfg} {a:Arr} {sq:Int} {L:List Txt} {X:Nat→Nat→Bool} (E:EX c a sq L X) (h:∀ d:Nat,d < a.disks.length→X d 0=false∧∀ n:Nat,(n:Int) < c.st→X d (stP c n)=false) (bad:Nat→Prop):VS c a sq L bad:=by
 obtain ⟨⟨g,I,e,hL,hX⟩,hdn,hq,hll,hal,hlf⟩:=E
 have all:∀ {d p:Nat} {b:BlkD},Lst 7 a d p b→AllV 7 a d p b:=fun ⟨x,h1,h2,h3,h4⟩=>⟨x,h1,h2,h3,fun s hs=>by rw [hq.vers h1 h3 hs];exact h4⟩
 refine ⟨⟨g,I.good fun d hd _=> .inr ?_,e,hL⟩,hdn,hq,hll⟩
 obtain ⟨k1,_,k3⟩:=hX d hd
 obtain ⟨j1,j2⟩:=h d hd
 exact ⟨all (k1 j1),fun n hn=>all ((k3 n hn).1 (j2 n hn))⟩
theorem EX.conf {c:Cfg} {a:Arr} {sq:Int} {L:List Txt} {X:Nat→Nat→Bool} (E:EX c a sq L X):Ax c∧(a.disks.length:Int)=c.k+c.m∧0≤sq:=by
 obtain ⟨⟨g,I,rfl,_⟩,_⟩:=E
 exact ⟨I.conf,I.len,I.s0⟩
theorem EX.all {c:Cfg} {a:Arr} {sq:Int} {L:List Txt} {X:Nat→Nat→Bool} (E:EX c a sq L X) (hs:sq+1 < 36028797018963968) :
  (Ex a 7 c).er=0∧EX c (Ex a 7 c).ar sq L (afX c a.disks.length c.st.toNat 0 (clr X 0))∧(Ex a 7 c).ar.disks.length=a.disks.length ∧
  (Ex a 7 c).rp=⟨c.st,((cntX X a.disks.length 0+meX c a.disks.length c.st.toNat 0 (clr X 0):Nat):Int),(loX c a.disks.length c.st.toNat 0 (clr X 0):Nat),true⟩:=by
 have h1:=Bd E.conf.1
 obtain ⟨n1,n2,n3⟩:=E.A8q
 have hst:((0+c.st.toNat:Nat):Int)=c.st:=by omega
 obtain ⟨i1,i2,i3,i4⟩:=EX.D8 hs c.st.toNat 0 (r:=addR ⟨0,0,0,false⟩ (((cntX X a.disks.length 0:Nat):Int)) 0) n2 rfl ω
 have hm:(min (max c.st 1) (c.st - 0)).toNat=c.st.toNat:=by congr 1;omega
 unfold Ex De
 rw [if_neg ω,if_pos rfl,n1]
 simp only [addE]
 rw [if_neg μ,hm]
 rw [n3] at i2 i3 i4
 refine ⟨i1,i2,i3,?_⟩
 rw [i4,hst]
 simp [addR]
theorem Wu {X:Nat→Nat→Bool} {N p:Nat} (h:∀ d:Nat,d < N→X d p=false):cntX X N p=0:=by
 unfold cntX
 rw [List.countP_eq_zero]
 intro d hd
 rw [h d (List.mem_range.1 hd)]
 decide
end Go.Proofs.YtmbndhciflilbaaGreatDoor.X
namespace Go.Proofs.YtmbndhciflilbaaGreatDoor.X
open F
set_option linter.unusedSimpArgs false
set_option linter.unusedVariables false
theorem SA.set {a b:Arr} {d e q:Nat} {x y:Dsk} (hx:a.disks[d]? = some x) (hb:b.disks=a.disks.set d y) (h:e=d→y.gone=x.gone∧y.secs.length=x.secs.length∧y.at_ q=x.at_ q):SA a b e q:=by
 intro z hz
 have hd:=(List.getElem?_eq_some_iff.1 hx).1
 rw [hb,List.getElem?_set]
 by_cases he:d=e
 ·subst he
  rw [hx] at hz;cases hz
  rw [if_pos rfl,if_pos hd]
  exact ⟨y,rfl,h rfl⟩
 ·rw [if_neg he];exact ⟨z,hz,rfl,rfl,rfl⟩
theorem EX.A1u {c:Cfg} {a:Arr} {sq:Int} {L:List Txt} {X:Nat→Nat→Bool} (E:EX c a sq L X) {n:Nat} (hn:(n:Int) < c.st) :
  Jx a 7 c n=if c.k+cntX X a.disks.length (stP c n)≤a.disks.length then ((a.disks.length:Int) - cntX X a.disks.length (stP c n),0) else (0,10):=by
 obtain ⟨⟨g,I,rfl,hL,hX⟩,hdn,hq,hll,hal,hlf⟩:=E
 obtain ⟨h1,h2⟩:=EX.ofN I hdn hn fun d hd=>(hX d hd).2.2 n hn
 rw [I.A8j hdn hn]
 by_cases h:c.k+cntX X a.disks.length (stP c n)≤a.disks.length
 ·rw [if_pos h,if_pos ω]
  congr 1
  omega
 ·rw [if_neg h,if_neg ω]
theorem EX.least {c:Cfg} {a:Arr} {sq:Int} {L:List Txt} {X:Nat→Nat→Bool} (E:EX c a sq L X) (hX:∀ n:Nat,(n:Int) < c.st→cntX X a.disks.length (stP c n)=0):∀ k:Nat,(k:Int)≤c.st→Fa a 7 c k 255=(if k=0 then 255 else min 255 (a.disks.length:Int),0)
 | 0,_=>rfl
 | k+1,hk=>by
  have hN:=E.conf.2.1
  have hc:=Bd E.conf.1
  have ih:=EX.least E hX k ω
  have hh:=E.A1u (n:=k) ω
  rw [hX k ω,if_pos (by push_cast;omega)] at hh
  rw [Fa,ih,hh]
  simp
  split<;>omega
theorem EX.A8r {c:Cfg} {a:Arr} {sq:Int} {L:List Txt} {X:Nat→Nat→Bool} (E:EX c a sq L X) {n:Nat} (hn:(n:Int) < c.st) (hX:¬c.k+cntX X a.disks.length (stP c n)≤a.disks.length):∀ k:Nat,(k:Int)≤c.st→(n < k→(Fa a 7 c k 255).2=10)∧((Fa a 7 c k 255).2=0∨(Fa a 7 c k 255).2=10)
 | 0,_=>⟨fun h=>by omega,.inl rfl⟩
 | k+1,hk=>by
  obtain ⟨i1,i2⟩:=EX.A8r E hn hX k ω
  have hh:=E.A1u (n:=k) ω
  rw [Fa]
  by_cases h0:(Fa a 7 c k 255).2=0
  ·rw [if_neg (by simp [h0])]
   by_cases hk2:c.k+cntX X a.disks.length (stP c k)≤a.disks.length
   ·rw [if_pos hk2] at hh
    rw [hh]
    refine ⟨fun h=> ?_,.inl μ⟩
    by_cases hkn:n=k
    ·subst hkn;exact (hX hk2).elim
    ·have:=i1 ω;omega
   ·rw [if_neg hk2] at hh
    rw [hh]
    exact ⟨fun _=>by simp,.inr μ⟩
  ·rw [if_pos h0]
   have:(Fa a 7 c k 255).2=10:=i2.resolve_left h0
   exact ⟨fun _=>this,.inr this⟩
end Go.Proofs.YtmbndhciflilbaaGreatDoor.X
namespace Go.Proofs.YtmbndhciflilbaaGreatDoor.X
open F
set_option linter.unusedSimpArgs false
set_option linter.unusedVariables false
def sm (f:Nat→Nat):Nat→Nat
 | 0=>0
 | n+1=>sm f n+f n
theorem Bw {f g:Nat→Nat} : ∀ n,(∀ i,i < n→f i=g i)→sm f n=sm g n
 | 0,_=>rfl
 | n+1,h=>by rw [sm,sm,Bw n fun i hi=>h i ω,h n ω]
theorem Ae6 {f g:Nat→Nat} : ∀ n,sm (fun i=>f i+g i) n=sm f n+sm g n
 | 0=>rfl
 | n+1=>by rw [sm,sm,sm,Ae6 n];omega
theorem Pe:∀ n,sm (fun _=>0) n=0
 | 0=>rfl
 | n+1=>by rw [sm,Pe n]
theorem Re {g:Nat→Nat→Nat} (M:Nat):∀ N,sm (fun d=>sm (fun n=>g d n) M) N=sm (fun n=>sm (fun d=>g d n) N) M
 | 0=>by simp only [sm];rw [Pe]
 | N+1=>by
  rw [sm,Re M N,←Ae6]
  rfl
theorem A8s {f:Nat→Nat} : ∀ k,sm f (k+1)=f 0+sm (fun i=>f (i+1)) k
 | 0=>by simp [sm]
 | k+1=>by rw [sm,A8s k,sm];omega
theorem Ze (p:Nat→Bool):∀ n,(List.range n).countP p=sm (fun i=>if p i=true then 1 else 0) n
 | 0=>rfl
 | n+1=>by
  rw [List.range_succ,List.countP_append,Ze p n,sm,List.countP_cons,List.countP_nil]
  simp
def totX (X:Nat→Nat→Bool) (N sl st:Nat):Nat:=cntX X N 0+sm (fun n=>cntX X N (1+sl+n)) st
theorem Us {X:Nat→Nat→Bool} {N p q:Nat} (h:p≠q):cntX (clr X q) N p=cntX X N p:=by
 unfold cntX
 exact List.countP_congr fun d _=>by unfold clr;rw [if_neg h]
theorem A8t {c:Cfg} {N:Nat} : ∀ (k n:Nat) {X:Nat→Nat→Bool},(∀ i,n≤i→okX c N X i)→meX c N k n X=sm (fun i=>cntX X N (stP c (n+i))) k∧loX c N k n X=0∧∀ d p:Nat,afX c N k n X d p=true→X d p=true∧∀ i,i < k→p≠stP c (n+i)
 | 0,n,X,_=>⟨rfl,rfl,fun d p h=>⟨h,fun i hi=>by omega⟩⟩
 | k+1,n,X,h=>by
  have ho:oneX c N X n=clr X (stP c n):=by unfold oneX;rw [if_pos (h n (Nat.le_refl _))]
  have hne:∀ i,n < i→stP c i≠stP c n:=fun i hi=>by unfold stP;omega
  obtain ⟨i1,i2,i3⟩:=A8t (c:=c) (N:=N) k (n+1) (X:=clr X (stP c n)) fun i hi=>by
   unfold okX
   rw [Us (hne i ω)]
   exact h i ω
  rw [meX,loX,ho,if_pos (h n (Nat.le_refl _)),if_pos (h n (Nat.le_refl _)),i1,i2,A8s]
  refine ⟨?_,rfl,fun d p hp=> ?_⟩
  ·rw [Nat.add_zero]
   congr 1
   refine Bw k fun i _=> ?_
   rw [Us (hne _ ω)]
   congr 1
   unfold stP
   omega
  ·rw [afX,ho] at hp
   obtain ⟨j1,j2⟩:=i3 d p hp
   unfold clr at j1
   split at j1
   ·cases j1
   ·rename_i hpn
    refine ⟨j1,fun i hi=> ?_⟩
    cases i with
    | zero=>exact hpn
    | succ i=>have:=j2 i ω;intro e;apply this;rw [e];unfold stP;omega
theorem EX.allOk {c:Cfg} {a:Arr} {sq:Int} {L:List Txt} {X:Nat→Nat→Bool} (E:EX c a sq L X) (hs:sq+1 < 36028797018963968) (ho:∀ i:Nat,okX c a.disks.length X i) :
  (Ex a 7 c).er=0∧(Ex a 7 c).rp=⟨c.st,(totX X a.disks.length c.sl.toNat c.st.toNat:Nat),0,true⟩∧EX c (Ex a 7 c).ar sq L (fun _ _=>false)∧(Ex a 7 c).ar.disks.length=a.disks.length:=by
 have hc:=Bd E.conf.1
 obtain ⟨a1,a2,a3,a4⟩:=E.all hs
 have ho':∀ i,0≤i→okX c a.disks.length (clr X 0) i:=fun i _=>by
  unfold okX
  rw [Us (by unfold stP;omega)]
  exact ho i
 obtain ⟨m1,m2,m3⟩:=A8t (c:=c) (N:=a.disks.length) c.st.toNat 0 ho'
 refine ⟨a1,?_,?_,a3⟩
 ·rw [a4,m2,m1]
  unfold totX
  congr 3
  refine Bw _ fun i _=> ?_
  rw [Us (by unfold stP;omega)]
  congr 1
  unfold stP
  omega
 ·obtain ⟨⟨g,I,e,hL,hX⟩,hdn,hq,hll,hal,hlf⟩:=a2
  have hf:∀ d p:Nat,(p=0∨∃ n:Nat,(n:Int) < c.st∧p=stP c n)→afX c a.disks.length c.st.toNat 0 (clr X 0) d p=false:=fun d p hp=>by
   cases hx:afX c a.disks.length c.st.toNat 0 (clr X 0) d p with
   | false=>rfl
   | true =>
    obtain ⟨j1,j2⟩:=m3 d p hx
    rcases hp with rfl|⟨n,hn,rfl⟩
    ·unfold clr at j1;rw [if_pos rfl] at j1;cases j1
    ·exact (j2 n ω (by rw [Nat.zero_add])).elim
  refine ⟨⟨g,I,e,hL,fun d hd=> ?_⟩,hdn,hq,hll,hal,hlf⟩
  obtain ⟨k1,k2,k3⟩:=hX d hd
  exact ⟨fun _=>k1 (hf d 0 (.inl rfl)),fun h=>(by cases h),fun n hn=>⟨fun _=>(k3 n hn).1 (hf d _ (.inr ⟨n,hn,rfl⟩)),fun h=>(by cases h)⟩⟩
end Go.Proofs.YtmbndhciflilbaaGreatDoor.X
namespace Go.Proofs.YtmbndhciflilbaaGreatDoor.X
open F
set_option linter.unusedSimpArgs false
set_option linter.unusedVariables false
theorem A3p {c:Cfg} {N:Nat} {X:Nat→Nat→Bool} {n0:Nat} (h0:∀ i,i≠n0→∀ d,X d (stP c i)=false) (h1:¬okX c N X n0) (hk:c.k≤N):∀ k n,afX c N k n X=X∧meX c N k n X=0∧loX c N k n X=if n≤n0∧n0 < n+k then 1 else 0
 | 0,n=>⟨rfl,rfl,by rw [if_neg ω];rfl⟩
 | k+1,n=>by
  have one:oneX c N X n=X:=by
   unfold oneX
   split
   ·rename_i hok
    by_cases hn:n=n0
    ·subst hn;exact (h1 hok).elim
    ·funext d p
     unfold clr
     split
     ·rename_i hp;rw [hp];exact (h0 n hn d).symm
     ·rfl
   ·rfl
  obtain ⟨i1,i2,i3⟩:=A3p h0 h1 hk k (n+1)
  rw [afX,meX,loX,one]
  refine ⟨i1,?_,?_⟩
  ·rw [i2]
   by_cases hn:n=n0
   ·subst hn;rw [if_neg h1]
   ·split
    ·rw [Wu fun d _=>h0 n hn d]
    ·rfl
  ·rw [i3]
   by_cases hn:n=n0
   ·subst hn;rw [if_neg h1,if_neg ω,if_pos ω]
   ·have hok:okX c N X n:=by unfold okX;rw [Wu fun d _=>h0 n hn d];simpa using hk
    rw [if_pos hok]
    by_cases h:n+1≤n0∧n0 < n+1+k
    ·rw [if_pos h,if_pos ω]
    ·rw [if_neg h,if_neg ω]
def colX (p j:Nat):Nat→Nat→Bool:=fun d q=>decide (d < j∧q=p)
theorem Ahf {p j N:Nat} (h:j≤N):cntX (colX p j) N p=j:=by
 unfold cntX
 rw [Ze]
 have:∀ n,sm (fun i=>if colX p j i p=true then 1 else 0) n=min j n:=fun n=>by
  induction n with
  | zero=>simp [sm]
  | succ n ih =>
   rw [sm,ih]
   unfold colX
   by_cases h:n < j
   ·rw [if_pos (by simp [h])];omega
   ·rw [if_neg (by simp [h])];omega
 rw [this];omega
theorem EX.lost {c:Cfg} {a:Arr} {sq:Int} {L:List Txt} {n:Nat} (hn:(n:Int) < c.st) (E:EX c a sq L (colX (stP c n) (c.m+1).toNat)) (hs:sq+1 < 36028797018963968) :
  (Ex a 7 c).er=0∧(Ex a 7 c).rp=⟨c.st,0,1,true⟩∧EX c (Ex a 7 c).ar sq L (colX (stP c n) (c.m+1).toNat)∧(Ex a 7 c).ar.disks.length=a.disks.length∧(Fa (Ex a 7 c).ar 7 c c.st.toNat 255).2=10:=by
 have hc:=Bd E.conf.1
 have hl:=E.conf.2.1
 obtain ⟨a1,a2,a3,a4⟩:=E.all hs
 have hne:∀ i,i≠n→stP c i≠stP c n:=fun i hi=>by unfold stP;omega
 have h00:(0:Nat)≠stP c n:=by unfold stP;omega
 have hclr:clr (colX (stP c n) (c.m+1).toNat) 0=colX (stP c n) (c.m+1).toNat:=by
  funext d q
  unfold clr
  split
  ·rename_i hq;subst hq;unfold colX;simp;omega
  ·rfl
 have hno:¬okX c a.disks.length (colX (stP c n) (c.m+1).toNat) n:=by
  unfold okX
  rw [Ahf ω]
  omega
 obtain ⟨l1,l2,l3⟩:=A3p (c:=c) (N:=a.disks.length) (X:=colX (stP c n) (c.m+1).toNat) (n0:=n) (fun i hi d=>by unfold colX;simp;intro _;exact hne i hi) hno ω c.st.toNat 0
 rw [hclr,l1] at a2
 rw [hclr,l2,l3,if_pos ω,Wu (fun d _=>by unfold colX;simp;intro _;exact h00)] at a4
 refine ⟨a1,by rw [a4];simp,a2,a3,(EX.A8r a2 hn (by rw [a3];exact hno) c.st.toNat ω).1 ω⟩
theorem Ae7 {X:Nat→Nat→Bool} {bd:List Bool} (h:∀ d p:Nat,X d p=true→bd[d]? = some true) (p:Nat):cntX X bd.length p≤bads bd:=by
 have h1:=Ma (fun b:Bool=>b) (fun d=>decide (bd[d]? = some true)) bd 0 fun i x hx=>by
  rw [Nat.zero_add,hx]
  cases x<;>simp
 have h2:(List.range bd.length).map (0 + ·)=List.range bd.length:=by simp
 rw [h2] at h1
 unfold bads
 rw [←h1]
 exact List.countP_mono_left fun d _ hd=>by simpa using h d p hd
theorem EX.found {c:Cfg} {a:Arr} {sq:Int} {L:List Txt} {X:Nat→Nat→Bool} {bd:List Bool} (E:EX c a sq L X) (hs:sq+1 < 36028797018963968) (hb:(bd.length:Int)=c.k+c.m) (h:∀ d p:Nat,X d p=true→bd[d]? = some true) (hm:(bads bd:Int)≤c.m) :
  (Ex a 7 c).er=0∧(Ex a 7 c).rp=⟨c.st,(totX X a.disks.length c.sl.toNat c.st.toNat:Nat),0,true⟩∧EX c (Ex a 7 c).ar sq L (fun _ _=>false)∧(Ex a 7 c).ar.disks.length=a.disks.length :=
 E.allOk hs fun i=>by
  have hl:=E.conf.2.1
  have e:a.disks.length=bd.length:=by omega
  have:=Ae7 h (stP c i)
  unfold okX
  rw [e]
  omega
end Go.Proofs.YtmbndhciflilbaaGreatDoor.X
namespace Go.Proofs.YtmbndhciflilbaaGreatDoor.X
open F
set_option linter.unusedSimpArgs false
set_option linter.unusedVariables false
theorem AllV.sub {id:Int} {a b:Arr} {d p:Nat} {b0:BlkD} (h:AllV id a d p b0) (hs:∀ x,a.disks[d]? = some x→∃ y,b.disks[d]? = some y∧y.gone=x.gone∧y.secs.length=x.secs.length∧∀ s,y.vers p s→x.vers p s∨Ownd id d p s b0):AllV id b d p b0:=by
 obtain ⟨x,h1,h2,h3,h4⟩:=h
 obtain ⟨y,k1,k2,k3,k4⟩:=hs x h1
 exact ⟨y,k1,by rw [k2];exact h2,by rw [k3];exact h3,fun s hv=>(k4 s hv).elim (h4 s) fun h=>h⟩
theorem AllV.B3 {c:Cfg} {id:Int} {a:Arr} {d p:Nat} {b0:BlkD} (h:AllV id a d p b0) (hdk:∀ x∈a.disks,DskG c x) (keep:List Bool):AllV id (a.B3 keep) d p b0 :=
 h.sub fun x hx=>by
  obtain ⟨ks,hk⟩:=Jv a.disks keep d x hx
  exact ⟨_,hk,Dsk.Gb _,Dsk.Hb _,fun s hv=> .inl (Dsk.Qd (hdk x (List.mem_of_getElem? hx)).waits hv)⟩
theorem AllV.flush {c:Cfg} {id:Int} {a:Arr} {d p:Nat} {b0:BlkD} (h:AllV id a d p b0) (hdk:∀ x∈a.disks,DskG c x):AllV id a.flush d p b0:=by
 unfold Arr.flush
 split
 ·exact h
 ·exact h.sub fun x hx=>⟨x.flush,by simp [hx],Dsk.Gb _,Dsk.Hb _,fun s hv=> .inl (Dsk.Qd (hdk x (List.mem_of_getElem? hx)).waits hv)⟩
theorem AllV.dsks {id:Int} {a b:Arr} {d p:Nat} {b0:BlkD} (h:AllV id a d p b0) (e:b.disks=a.disks):AllV id b d p b0 :=
 h.sub fun x hx=>⟨x,by rw [e];exact hx,rfl,rfl,fun s hv=> .inl hv⟩
theorem AllV.put {c:Cfg} {id:Int} {g:Gh} {bad:Nat→Prop} {pd:Option Pd} {a:Arr} {d p:Nat} {b0:BlkD} (h:AllV id a d p b0) (I:Inv c id g bad pd a) (hdn:a.down=false) {b:BlkD} (hp:J6 c id g bad pd a b) (hb:b.dk=d→b.pl=p→b=b0):AllV id (vput a b) d p b0:=by
 obtain ⟨o1,o2,o3⟩:=T4 hp.ok
 obtain ⟨e,he,hal⟩:=hp.al
 obtain ⟨x,hx,hg⟩:=Arr.Dm.1 hal
 have hG:=I.dk x (List.mem_of_getElem? hx)
 obtain ⟨q,hq⟩:=Int.eq_ofNat_of_zero_le hp.ok.p0
 have hps:q < x.secs.length:=by have:=hG.secs;have:=hp.pl;omega
 have hsz:(((Dc b).1).length:Int)≤x.size:=by rw [o3,hG.size];have:=hp.sz;push_cast;omega
 have e1:vput a b=a.write (e:Int) (q:Int) (Dc b).1:=by unfold vput;rw [if_pos o1,he,hq]
 rw [e1]
 rcases Arr.U0 hdn hx hg hps hsz with ⟨w1,w2,w3⟩|⟨w1,w2,w3⟩
 ·rw [w3];exact h.dsks rfl
 ·rw [w3]
  refine h.sub fun y hy=> ?_
  have hlt:=(List.getElem?_eq_some_iff.1 hx).1
  show ∃ z,(a.disks.set e (x.more q (Dc b).1))[d]? = some z∧_
  rw [List.getElem?_set]
  by_cases hed:e=d
  ·subst hed
   rw [hx] at hy;cases hy
   rw [if_pos rfl,if_pos hlt]
   refine ⟨_,rfl,rfl,rfl,fun s hv=> ?_⟩
   rcases Dsk.T7 hv with hv|⟨h1,h2⟩
   ·exact .inl hv
   ·right
    subst h1 h2
    have:=N3 hp.ok
    rw [hp.ar,he,hq] at this
    have hbb:=hb he hq
    rw [←hbb]
    exact this
  ·rw [if_neg hed];exact ⟨y,hy,rfl,rfl,fun s hv=> .inl hv⟩
theorem AllV.puts {c:Cfg} {id:Int} {g:Gh} {bad:Nat→Prop} {pd:Option Pd} {d p:Nat} {b0:BlkD} : ∀ (bs:List BlkD) {a:Arr},AllV id a d p b0→Inv c id g bad pd a→a.down=false→(∀ b∈bs,J6 c id g bad pd a b)→(∀ b∈bs,b.dk=d→b.pl=p→b=b0)→AllV id (puts bs a).1 d p b0
 | [],a,h,_,_,_,_=>h
 | b :: bs,a,h,I,hdn,hok,hb=>by
  have h1:=h.put I hdn (hok b (List.mem_cons_self ..)) (hb b (List.mem_cons_self ..))
  obtain ⟨I1,S1,w⟩:=I.put hdn (hok b (List.mem_cons_self ..))
  rw [Go.Proofs.YtmbndhciflilbaaGreatDoor.X.puts]
  rcases w with ⟨w1,w2,_⟩|⟨w1,w2,_⟩
  ·rw [if_pos w1]
   exact AllV.puts bs h1 I1 w2 (fun b' hb'=>(hok b' (List.mem_cons_of_mem _ hb')).step S1) fun b' hb'=>hb b' (List.mem_cons_of_mem _ hb')
  ·rw [if_neg (by rw [w1];decide)]
   exact h1
theorem AllV.shs {c:Cfg} {id:Int} {g:Gh} {bad:Nat→Prop} {pd:Option Pd} {a:Arr} {d p:Nat} {b0:BlkD} (h:AllV id a d p b0) (I:Inv c id g bad pd a) (hdn:a.down=false) {n:Nat} (hn:(n:Int) < c.st) (hs:g.sq+1 < 36028797018963968) {ds:List Int} (hds:∀ d∈ds,d∈Ab a a.disks.length) (hb:p=stP c n→b0=stB id c n (g.ep n) (g.tx n) d) :
  AllV id (vshR a id c n (g.ep n) (g.tx n) ds).1 d p b0:=by
 have hC:=I.conf
 have hge:=I.ge n hn
 have e3:vshR a id c n (g.ep n) (g.tx n) ds=Go.Proofs.YtmbndhciflilbaaGreatDoor.X.puts (ds.map (shB id (Au c n) (g.ep n) (splR c (g.tx n)).1)) a:=by
  unfold vshR
  rw [if_pos (spl0 hC hge.2.2),He]
 rw [e3]
 refine h.puts _ I hdn (fun b hb'=> ?_) fun b hb' h1 h2=> ?_
 ·obtain ⟨d',hd',rfl⟩:=List.mem_map.1 hb'
  obtain ⟨f,rfl,hf,hal⟩:=C5.1 (hds d' hd')
  rw [Hf hC hn]
  exact I.A3e hn ω hs hge.2.2 (.inl ⟨rfl,rfl⟩) hf hal
 ·obtain ⟨d',hd',rfl⟩:=List.mem_map.1 hb'
  have h1:d'=(d:Int):=h1
  have h2:Au c n=(p:Int):=h2
  rw [Er hC hn] at h2
  subst h1
  rw [Hf hC hn,hb ω]
theorem AllV.redo {c:Cfg} {id:Int} {g:Gh} {bad:Nat→Prop} (hs:g.sq+1 < 36028797018963968) {d p:Nat} {b0:BlkD} (hb:∀ n:Nat,(n:Int) < c.st→p=stP c n→b0=stB id c n (g.ep n) (g.tx n) d):∀ (l:List IntD) {a:Arr},AllV id a d p b0→Inv c id g bad none a→a.down=false→(∃ d:Nat,d < a.disks.length∧a.alive (d:Int)=true∧¬bad d) →
  (∀ x∈l,RegX c g none x)→AllV id (D4 id c (Ab a a.disks.length) a l).1 d p b0
 | [],a,h,_,_,_,_=>h
 | x :: l,a,h,I,hdn,hg,hx=>by
  obtain ⟨n,h1,h2,h3,h4,h5,h6,h7⟩:=hx x (List.mem_cons_self ..)
  have hx':∀ y∈l,RegX c g none y:=fun y hy=>hx y (List.mem_cons_of_mem _ hy)
  rw [D4]
  by_cases hskip:x.sq+1 < maxL (stE a id c x.st)∨Go.Proofs.YtmbndhciflilbaaGreatDoor.X.ofN (stE a id c x.st) (x.sq+1)=(Ab a a.disks.length).length
  ·rw [if_pos hskip]
   exact AllV.redo hs hb l h I hdn hg hx'
  ·rw [if_neg hskip]
   have hmx:=(I.maxE hdn h2 hg).1
   have hq:x.sq+1=g.ep n:=by
    have:¬x.sq+1 < maxL (stE a id c n):=fun h=>hskip (.inl (by rw [h1];exact h))
    omega
   have ht:=h6 hq
   have hge:=I.ge n h2
   simp only [h1,hq,ht]
   obtain ⟨I1,S1,w⟩:=I.shs hdn h2 (e:=g.ep n) (t:=g.tx n) ω hs hge.2.2 (.inl ⟨rfl,rfl⟩) (ds:=Ab a a.disks.length) fun d hd=>hd
   have hA:=h.shs I hdn h2 hs (ds:=Ab a a.disks.length) (fun d hd=>hd) (hb n h2)
   rcases w with ⟨w1,w2,_⟩|⟨w1,_⟩
   ·rw [if_pos w1]
    have:=AllV.redo hs hb l hA I1 w2 (S1.good hg) hx'
    rw [S1.Ab] at this
    exact this
   ·rw [if_neg (by rw [w1];decide)]
    exact hA
end Go.Proofs.YtmbndhciflilbaaGreatDoor.X
namespace Go.Proofs.YtmbndhciflilbaaGreatDoor.X
open F
set_option linter.unusedSimpArgs false
set_option linter.unusedVariables false
theorem AllV.A3m {c:Cfg} {id:Int} {g:Gh} {bad:Nat→Prop} {a:Arr} {d p:Nat} {b0:BlkD} (h:AllV id a d p b0) (I:Inv c id g bad none a) (hdn:a.down=false) (hg:∃ d:Nat,d < a.disks.length∧a.alive (d:Int)=true∧¬bad d) (hs:g.sq+1 < 36028797018963968)
  (hb:∀ n:Nat,(n:Int) < c.st→p=stP c n→b0=stB id c n (g.ep n) (g.tx n) d):AllV id (Bc a id).ar d p b0:=by
 have hhd:=I.head hdn hg
 have hreg:∀ x∈C4 a id c,RegX c g none x:=fun x hx=>by
  rcases A3j I hdn x ((Z9 _).2.1 x hx) with ⟨n,q1,q2,q3,q4,q5,q6⟩|⟨P',q1,_⟩
  ·exact ⟨n,q1,q2,q3,q4,q5,q6,fun P' hP'=>by cases hP'⟩
  ·cases q1
 obtain ⟨I2,S2,w⟩:=Inv.redo (pd:=none) hs (fun P hP=>by cases hP) (C4 a id c) I hdn hg (fun x hx=> .inl (hreg x hx)) fun P hP=>by cases hP
 have h2:=AllV.redo hs hb (C4 a id c) h I hdn hg hreg
 have key:AllV id (tryR (D4 id c (Ab a a.disks.length) a (C4 a id c)) Bv).1 d p b0:=by
  unfold tryR
  split
  ·exact h2.flush I2.dk
  ·exact h2
 unfold Bc
 rw [if_neg (by simp [hdn]),hhd]
 simp only
 split<;>exact key
theorem Inv.vmendF {c:Cfg} {g:Gh} {bad:Nat→Prop} {a:Arr} (I:Inv c 7 g bad none a) (hdn:a.down=false) {n:Nat} (hn:(n:Int) < c.st) (hk:c.k≤ofN (stE a 7 c n) (g.ep n)) (hs:g.sq+1 < 36028797018963968) :
  Inv c 7 g bad none (Bj a 7 c n).1∧Stp a (Bj a 7 c n).1∧(∀ (d p:Nat) b0,(p=stP c n→b0=stB 7 c n (g.ep n) (g.tx n) d)→AllV 7 a d p b0→AllV 7 (Bj a 7 c n).1 d p b0) ∧
  (((Bj a 7 c n).2.2=0∧(Bj a 7 c n).1.down=false∧Qt (Bj a 7 c n).1∧∀ d:Nat,(d:Int)∈Ab a a.disks.length→AllV 7 (Bj a 7 c n).1 d (stP c n) (stB 7 c n (g.ep n) (g.tx n) d)) ∨
   ((Bj a 7 c n).2.2=9∧(Bj a 7 c n).1.down=true∧¬a.left < 0)):=by
 have hC:=I.conf
 have hge:=I.ge n hn
 have hr:=I.A3h hdn hn
 have hl:=I.look hdn hn
 rw [if_pos hk] at hr hl
 unfold Gc at hr
 rw [hl] at hr
 simp only [if_true] at hr
 have hds:∀ d∈Gt a (ofH (stE a 7 c n) (g.ep n)),d∈Ab a a.disks.length:=fun d hd=>(List.mem_filter.1 hd).1
 obtain ⟨I1,S1,w⟩:=I.shs hdn hn (e:=g.ep n) (t:=g.tx n) ω hs hge.2.2 (.inl ⟨rfl,rfl⟩) hds
 have hA:=fun (d p:Nat) (b0:BlkD) (hb:p=stP c n→b0=stB 7 c n (g.ep n) (g.tx n) d) (h:AllV 7 a d p b0)=>h.shs I hdn hn hs hds hb
 unfold Bj
 rw [hl]
 simp only
 rw [if_neg μ,hr]
 simp only
 rw [if_neg μ]
 rcases w with ⟨w1,w2,w3,w4⟩|⟨w1,w2,w3⟩
 ·rw [Gq w1,(Cp w2).1]
  simp only [if_true]
  refine ⟨I1.flush,S1.trans (Stp.flush _),fun d p b0 hb h=>(hA d p b0 hb h).flush I1.dk,.inl ⟨trivial,(Cp w2).2,Qt.flush w2 I1.dk,fun d hd=>Lst.flush w2 I1.dk ?_⟩⟩
  by_cases hm:(d:Int)∈Gt a (ofH (stE a 7 c n) (g.ep n))
  ·exact w3 d hm
  ·refine w4 d _ _ (fun h=>hm h.1) ?_
   obtain ⟨d',hdd,hdl,hal⟩:=C5.1 hd
   have:d'=d:=by omega
   subst this
   rcases I.st1 hdn hn hdl with ⟨h,_⟩|⟨h,_⟩
   ·exact h
   ·refine (hm ?_).elim
    unfold Gt
    refine List.mem_filter.2 ⟨hd,?_⟩
    have:(ofH (stE a 7 c n) (g.ep n))[d']? = some false:=by
     unfold ofH
     rw [Ld,List.getElem?_map,List.getElem?_map,List.getElem?_range hdl]
     simp [h]
     omega
    simp [this]
 ·rw [Jw (by rw [w1];decide)]
  simp only [w1]
  rw [if_neg ν]
  exact ⟨I1,S1,hA,.inr ⟨rfl,w2,w3⟩⟩
theorem Wv {c:Cfg} {g:Gh} {bad:Nat→Prop} : ∀ (ds:List Int) {a:Arr} (m:Int),Inv c 7 g bad none a→a.down=false→(∀ d∈ds,d∈Ab a a.disks.length) →
  Inv c 7 g bad none (Cg 7 c a m ds).1∧Stp a (Cg 7 c a m ds).1∧(∀ (d p:Nat) b0,(p=0→b0=hdB 7 d c)→AllV 7 a d p b0→AllV 7 (Cg 7 c a m ds).1 d p b0) ∧
  (((Cg 7 c a m ds).2.2=0∧(Cg 7 c a m ds).1.down=false∧(∀ d:Nat,(d:Int)∈ds→Lst 7 (Cg 7 c a m ds).1 d 0 (hdB 7 d c))∧(∀ (d p:Nat) b0,(p≠0∨b0=hdB 7 d c)→Lst 7 a d p b0→Lst 7 (Cg 7 c a m ds).1 d p b0)) ∨
   ((Cg 7 c a m ds).2.2=9∧(Cg 7 c a m ds).1.down=true∧¬a.left < 0))
 | [],a,m,I,hdn,_=>⟨I,Stp.refl a,fun _ _ _ _ h=>h,.inl ⟨rfl,hdn,fun d hd=>by simp at hd,fun _ _ _ _ h=>h⟩⟩
 | d :: ds,a,m,I,hdn,hds=>by
  have hds':∀ e∈ds,e∈Ab a a.disks.length:=fun e he=>hds e (List.mem_cons_of_mem _ he)
  obtain ⟨e,rfl,hel,hal⟩:=C5.1 (hds d (List.mem_cons_self ..))
  have h1:=I.hd1 hdn hal
  rw [Cg]
  by_cases hh:isHd a 7 (e:Int) c
  ·rw [if_pos hh]
   have hL:Lst 7 a e 0 (hdB 7 e c):=by
    rcases h1 with ⟨h,_⟩|⟨_,h⟩
    ·exact h
    ·have:=hh.1;rw [h] at this;cases this
   obtain ⟨i1,i2,i3,i4⟩:=Wv ds m I hdn hds'
   refine ⟨i1,i2,i3,i4.imp_left fun ⟨j1,j2,j3,j4⟩=>⟨j1,j2,fun d hd=> ?_,j4⟩⟩
   rcases List.mem_cons.1 hd with hd|hd
   ·have:d=e:=by omega
    subst this
    exact j4 _ _ _ (.inr rfl) hL
   ·exact j3 d hd
  ·rw [if_neg hh]
   have hp:=I.putH hel hal
   have hA:∀ (d p:Nat) b0,(p=0→b0=hdB 7 d c)→AllV 7 a d p b0→AllV 7 (vput a (hdB 7 e c)) d p b0:=fun d p b0 hb h=>h.put I hdn hp fun q1 q2=>by
    have q1:(e:Int)=d:=q1
    have q2:(0:Int)=p:=q2
    have:e=d:=by omega
    subst this
    exact (hb ω).symm
   obtain ⟨I1,S1,w⟩:=I.put hdn hp
   rcases w with ⟨w1,w2,w3,w4⟩|⟨w1,w2,w3⟩
   ·rw [if_pos w1]
    have hL:Lst 7 (vput a (hdB 7 e c)) e 0 (hdB 7 e c):=w3 e 0 rfl rfl
    obtain ⟨i1,i2,i3,i4⟩:=Wv ds (m+1) I1 w2 fun d hd=>by rw [S1.Ab];exact hds' d hd
    refine ⟨i1,S1.trans i2,fun d p b0 hb h=>i3 d p b0 hb (hA d p b0 hb h),?_⟩
    rcases i4 with ⟨j1,j2,j3,j4⟩|⟨j1,j2,j3⟩
    ·refine .inl ⟨j1,j2,fun d hd=> ?_,fun d p b0 hp hb=> ?_⟩
     ·rcases List.mem_cons.1 hd with hd|hd
      ·have:d=e:=by omega
       subst this
       exact j4 _ _ _ (.inr rfl) hL
      ·exact j3 d hd
     ·refine j4 d p b0 hp ?_
      by_cases he:(hdB 7 e c).dk=d∧(hdB 7 e c).pl=p
      ·have h2:(e:Int)=d:=he.1
       have h3:(0:Int)=p:=he.2
       have:e=d:=by omega
       have:p=0:=by omega
       subst_vars
       rcases hp with hp|hp
       ·exact (hp rfl).elim
       ·rw [hp];exact hL
      ·exact w4 d p b0 he hb
    ·exact .inr ⟨j1,j2,fun h=>j3 (S1.neg h)⟩
   ·rw [if_neg (by rw [w1];decide),w1]
    exact ⟨I1,S1,hA,.inr ⟨rfl,w2,w3⟩⟩
theorem Inv.Ahg {c:Cfg} {g:Gh} {bad:Nat→Prop} {a:Arr} (I:Inv c 7 g bad none a) (hdn:a.down=false) :
  Inv c 7 g bad none (B9 a 7 c).1∧Stp a (B9 a 7 c).1∧(∀ (d p:Nat) b0,(p=0→b0=hdB 7 d c)→AllV 7 a d p b0→AllV 7 (B9 a 7 c).1 d p b0) ∧
  (((B9 a 7 c).2.2=0∧(B9 a 7 c).1.down=false∧Qt (B9 a 7 c).1∧∀ d:Nat,(d:Int)∈Ab a a.disks.length→AllV 7 (B9 a 7 c).1 d 0 (hdB 7 d c)) ∨
   ((B9 a 7 c).2.2=9∧(B9 a 7 c).1.down=true∧¬a.left < 0)):=by
 obtain ⟨i1,i2,i3,i4⟩:=Wv (Ab a a.disks.length) 0 I hdn fun d hd=>hd
 unfold B9
 rw [if_neg (by simp [hdn])]
 simp only
 rcases i4 with ⟨j1,j2,j3,j4⟩|⟨j1,j2,j3⟩
 ·have hpw:(Cg 7 c a 0 (Ab a a.disks.length)).1.Kv=0:=by unfold Arr.Kv;simp [j2]
  rw [if_pos j1,if_pos hpw]
  exact ⟨i1.flush,i2.trans (Stp.flush _),fun d p b0 hb h=>(i3 d p b0 hb h).flush i1.dk,.inl ⟨rfl,(Cp j2).2,Qt.flush j2 i1.dk,fun d hd=>Lst.flush j2 i1.dk (j3 d hd)⟩⟩
 ·rw [if_neg (by rw [j1];decide)]
  exact ⟨i1,i2,i3,.inr ⟨j1,j2,j3⟩⟩
end Go.Proofs.YtmbndhciflilbaaGreatDoor.X
namespace Go.Proofs.YtmbndhciflilbaaGreatDoor.X
open F
set_option linter.unusedSimpArgs false
set_option linter.unusedVariables false
structure MS (c:Cfg) (a:Arr) (sq:Int) (L:List Txt) (bad:Nat→Prop) (hd:Prop) (n:Nat):Prop where
 ex:∃ g,Inv c 7 g bad none a∧g.sq=sq∧(∀ m:Nat,(m:Int) < c.st→L[m]? = some (g.tx m))∧∀ d:Nat,d < a.disks.length→(hd→AllV 7 a d 0 (hdB 7 d c))∧∀ m:Nat,m < n→(m:Int) < c.st→AllV 7 a d (stP c m) (stB 7 c m (g.ep m) (g.tx m) d)
 ll:(L.length:Int)=c.st
 al:∀ d:Nat,d < a.disks.length→a.alive (d:Int)=true
theorem VS.ms {c:Cfg} {a:Arr} {sq:Int} {L:List Txt} {bad:Nat→Prop} (V:VS c a sq L bad) (hal:∀ d:Nat,d < a.disks.length→a.alive (d:Int)=true):MS c a sq L bad False 0:=by
 obtain ⟨⟨g,I,e,hL⟩,hdn,hq,hll⟩:=V
 exact ⟨⟨g,I,e,hL,fun d _=>⟨fun h=>h.elim,fun m hm=>by omega⟩⟩,hll,hal⟩
theorem MS.vs {c:Cfg} {a:Arr} {sq:Int} {L:List Txt} {bad:Nat→Prop} {hd:Prop} {n:Nat} (M:MS c a sq L bad hd n) (hh:hd) (hn:c.st≤n) (hdn:a.down=false) (hq:Qt a) (bad':Nat→Prop):VS c a sq L bad':=by
 obtain ⟨⟨g,I,e,hL,hA⟩,hll,hal⟩:=M
 exact ⟨⟨g,I.good fun d hd _=> .inr ⟨(hA d hd).1 hh,fun m hm=>(hA d hd).2 m ω hm⟩,e,hL⟩,hdn,hq,hll⟩
theorem MS.A8q {c:Cfg} {a:Arr} {sq:Int} {L:List Txt} {bad:Nat→Prop} {hd:Prop} {n:Nat} (M:MS c a sq L bad hd n) (hdn:a.down=false) :
  Stp a (B9 a 7 c).1∧MS c (B9 a 7 c).1 sq L bad hd n∧(((B9 a 7 c).2.2=0∧(B9 a 7 c).1.down=false∧Qt (B9 a 7 c).1∧MS c (B9 a 7 c).1 sq L bad True n)∨((B9 a 7 c).2.2=9∧(B9 a 7 c).1.down=true∧¬a.left < 0)):=by
 obtain ⟨⟨g,I,e,hL,hA⟩,hll,hal⟩:=M
 obtain ⟨i1,i2,i3,i4⟩:=I.Ahg hdn
 have hal':∀ d:Nat,d < (B9 a 7 c).1.disks.length→(B9 a 7 c).1.alive (d:Int)=true:=fun d hd=>by rw [i2.al];exact hal d (by rw [←i2.len];exact hd)
 have hA':∀ d:Nat,d < (B9 a 7 c).1.disks.length→(hd→AllV 7 (B9 a 7 c).1 d 0 (hdB 7 d c))∧∀ m:Nat,m < n→(m:Int) < c.st→AllV 7 (B9 a 7 c).1 d (stP c m) (stB 7 c m (g.ep m) (g.tx m) d):=fun d hd'=>by
  obtain ⟨k1,k2⟩:=hA d (by rw [←i2.len];exact hd')
  exact ⟨fun h=>i3 _ _ _ (fun _=>rfl) (k1 h),fun m hm hm2=>i3 _ _ _ (fun h=>by unfold stP at h;omega) (k2 m hm hm2)⟩
 refine ⟨i2,⟨⟨g,i1,e,hL,hA'⟩,hll,hal'⟩,i4.imp_left fun ⟨j1,j2,j3,j4⟩=>⟨j1,j2,j3,⟨⟨g,i1,e,hL,fun d hd'=>⟨fun _=>j4 d ?_,(hA' d hd').2⟩⟩,hll,hal'⟩⟩⟩
 have hd2:d < a.disks.length:=by rw [←i2.len];exact hd'
 exact C5.2 ⟨d,rfl,hd2,hal d hd2⟩
theorem MS.mend {c:Cfg} {a:Arr} {sq:Int} {L:List Txt} {bad:Nat→Prop} {hd:Prop} {n:Nat} (M:MS c a sq L bad hd n) (hdn:a.down=false) (hn:(n:Int) < c.st) (G:Gd c a bad) (hs:sq+1 < 36028797018963968) :
  Stp a (Bj a 7 c n).1∧MS c (Bj a 7 c n).1 sq L bad hd n∧(((Bj a 7 c n).2.2=0∧(Bj a 7 c n).1.down=false∧Qt (Bj a 7 c n).1∧MS c (Bj a 7 c n).1 sq L bad hd (n+1))∨((Bj a 7 c n).2.2=9∧(Bj a 7 c n).1.down=true∧¬a.left < 0)):=by
 obtain ⟨⟨g,I,rfl,hL,hA⟩,hll,hal⟩:=M
 obtain ⟨i1,i2,i3,i4⟩:=I.vmendF hdn hn (G.of I hdn hn) hs
 have hal':∀ d:Nat,d < (Bj a 7 c n).1.disks.length→(Bj a 7 c n).1.alive (d:Int)=true:=fun d hd=>by rw [i2.al];exact hal d (by rw [←i2.len];exact hd)
 have hA':∀ d:Nat,d < (Bj a 7 c n).1.disks.length→(hd→AllV 7 (Bj a 7 c n).1 d 0 (hdB 7 d c))∧∀ m:Nat,m < n→(m:Int) < c.st→AllV 7 (Bj a 7 c n).1 d (stP c m) (stB 7 c m (g.ep m) (g.tx m) d):=fun d hd'=>by
  obtain ⟨k1,k2⟩:=hA d (by rw [←i2.len];exact hd')
  exact ⟨fun h=>i3 _ _ _ (fun h=>by unfold stP at h;omega) (k1 h),fun m hm hm2=>i3 _ _ _ (fun h=>by unfold stP at h;omega) (k2 m hm hm2)⟩
 refine ⟨i2,⟨⟨g,i1,rfl,hL,hA'⟩,hll,hal'⟩,i4.imp_left fun ⟨j1,j2,j3,j4⟩=>⟨j1,j2,j3,⟨⟨g,i1,rfl,hL,fun d hd'=>⟨(hA' d hd').1,fun m hm hm2=> ?_⟩⟩,hll,hal'⟩⟩⟩
 by_cases hmn:m=n
 ·subst hmn
  have hd2:d < a.disks.length:=by rw [←i2.len];exact hd'
  exact j4 d (C5.2 ⟨d,rfl,hd2,hal d hd2⟩)
 ·exact (hA' d hd').2 m ω hm2
theorem MS.D8 {c:Cfg} {sq:Int} {L:List Txt} {bad:Nat→Prop} (hs:sq+1 < 36028797018963968):∀ (k n:Nat) {a:Arr} {hd:Prop} {r:RepD},MS c a sq L bad hd n→a.down=false→Qt a→Gd c a bad→r.nx=n→((n+k:Nat):Int)≤c.st →
  Stp a (D8 7 c k a r).ar ∧
  (((D8 7 c k a r).er=0∧(D8 7 c k a r).ar.down=false∧Qt (D8 7 c k a r).ar∧MS c (D8 7 c k a r).ar sq L bad hd (n+k)∧(D8 7 c k a r).rp.nx=((n+k:Nat):Int)∧(D8 7 c k a r).rp.dn=decide (((n+k:Nat):Int)=c.st)∧(D8 7 c k a r).rp.lo=r.lo) ∨
   ((D8 7 c k a r).er=9∧(D8 7 c k a r).ar.down=true∧¬a.left < 0∧MS c (D8 7 c k a r).ar sq L bad hd n))
 | 0,n,a,hd,r,M,hdn,hq,G,hr,_=>⟨Stp.refl a,.inl ⟨rfl,hdn,hq,M,by simp [Go.Proofs.YtmbndhciflilbaaGreatDoor.X.D8,hr],by simp [Go.Proofs.YtmbndhciflilbaaGreatDoor.X.D8,hr],rfl⟩⟩
 | k+1,n,a,hd,r,M,hdn,hq,G,hr,hk=>by
  obtain ⟨S1,M1,w⟩:=M.mend hdn (show (n:Int) < c.st by omega) G hs
  have e2:n+1+k=n+(k+1):=by omega
  rw [Go.Proofs.YtmbndhciflilbaaGreatDoor.X.D8,hr]
  rcases w with ⟨w1,w2,w3,w4⟩|⟨w1,w2,w3⟩
  ·rw [if_neg (show ¬addE (Bj a 7 c n).2.2≠0 by rw [w1];decide)]
   obtain ⟨S2,i⟩:=MS.D8 hs k (n+1) (r:=⟨(n:Int)+1,(addR r (Bj a 7 c n).2.1 (Bj a 7 c n).2.2).me,(addR r (Bj a 7 c n).2.1 (Bj a 7 c n).2.2).lo,r.dn⟩) w4 w2 w3 (G.stp S1) (by push_cast;rfl) (by rw [e2];exact hk)
   refine ⟨S1.trans S2,?_⟩
   rw [e2] at i
   rcases i with ⟨i1,i2,i3,i4,i5,i6,i7⟩|⟨i1,i2,i3,i4⟩
   ·exact .inl ⟨i1,i2,i3,i4,i5,i6,by rw [i7];simp [addR,w1]⟩
   ·refine .inr ⟨i1,i2,fun h=>i3 (S1.neg h),?_⟩
    obtain ⟨⟨g,I,e,hL,hA⟩,hll,hal⟩:=i4
    exact ⟨⟨g,I,e,hL,fun d hd'=>⟨(hA d hd').1,fun m hm hm2=>(hA d hd').2 m ω hm2⟩⟩,hll,hal⟩
  ·rw [if_pos (show addE (Bj a 7 c n).2.2≠0 by rw [w1];decide)]
   exact ⟨S1,.inr ⟨by show addE _=9;rw [w1];rfl,w2,w3,M1⟩⟩
theorem MS.step {c:Cfg} {a:Arr} {sq:Int} {L:List Txt} {bad:Nat→Prop} {n:Nat} (hC:Ax c) (M:MS c a sq L bad (0 < n) n) (hdn:a.down=false) (hq:Qt a) (G:Gd c a bad) (hs:sq+1 < 36028797018963968) (hn:(n:Int) < c.st) {many:Int} (hm:1≤many) :
  Stp a (De a 7 c n many).ar ∧
  (((De a 7 c n many).er=0∧(De a 7 c n many).ar.down=false∧Qt (De a 7 c n many).ar∧∃ n':Nat,(De a 7 c n many).rp.nx=n'∧(n':Int)=n+min many (c.st - n)∧(De a 7 c n many).rp.dn=decide ((n':Int)=c.st)∧(De a 7 c n many).rp.lo=0∧MS c (De a 7 c n many).ar sq L bad (0 < n') n') ∨
   ((De a 7 c n many).er=9∧(De a 7 c n many).ar.down=true∧¬a.left < 0∧MS c (De a 7 c n many).ar sq L bad (0 < n) n)):=by
 have hk:((n+(min many (c.st - n)).toNat:Nat):Int)=n+min many (c.st - n):=by omega
 have hk1:0 < n+(min many (c.st - n)).toNat:=by omega
 unfold De
 rw [if_neg ω]
 by_cases h0:(n:Int)=0
 ·rw [if_pos h0]
  have hn0:n=0:=by omega
  subst hn0
  obtain ⟨S1,M1,w⟩:=M.A8q hdn
  rcases w with ⟨w1,w2,w3,w4⟩|⟨w1,w2,w3⟩
  ·rw [if_neg (show ¬addE (B9 a 7 c).2.2≠0 by rw [w1];decide)]
   obtain ⟨S2,i⟩:=MS.D8 hs (min many (c.st - ((0:Nat):Int))).toNat 0 (r:=addR ⟨((0:Nat):Int),0,0,false⟩ (B9 a 7 c).2.1 (B9 a 7 c).2.2) w4 w2 w3 (G.stp S1) rfl ω
   refine ⟨S1.trans S2,?_⟩
   rcases i with ⟨i1,i2,i3,i4,i5,i6,i7⟩|⟨i1,i2,i3,i4⟩
   ·refine .inl ⟨i1,i2,i3,_,i5,hk,i6,by rw [i7];simp [addR,w1],?_⟩
    obtain ⟨⟨g,I,e,hL,hA⟩,hll,hal⟩:=i4
    exact ⟨⟨g,I,e,hL,fun d hd'=>⟨fun _=>(hA d hd').1 trivial,(hA d hd').2⟩⟩,hll,hal⟩
   ·refine .inr ⟨i1,i2,fun h=>i3 (S1.neg h),?_⟩
    obtain ⟨⟨g,I,e,hL,hA⟩,hll,hal⟩:=i4
    exact ⟨⟨g,I,e,hL,fun d hd'=>⟨fun h=>by omega,(hA d hd').2⟩⟩,hll,hal⟩
  ·rw [if_pos (show addE (B9 a 7 c).2.2≠0 by rw [w1];decide)]
   exact ⟨S1,.inr ⟨by show addE _=9;rw [w1];rfl,w2,w3,M1⟩⟩
 ·rw [if_neg h0]
  obtain ⟨S2,i⟩:=MS.D8 hs (min many (c.st - n)).toNat n (r:=⟨(n:Int),0,0,false⟩) M hdn hq G rfl ω
  refine ⟨S2,?_⟩
  rcases i with ⟨i1,i2,i3,i4,i5,i6,i7⟩|⟨i1,i2,i3,i4⟩
  ·refine .inl ⟨i1,i2,i3,_,i5,hk,i6,i7,?_⟩
   obtain ⟨⟨g,I,e,hL,hA⟩,hll,hal⟩:=i4
   exact ⟨⟨g,I,e,hL,fun d hd'=>⟨fun _=>(hA d hd').1 ω,(hA d hd').2⟩⟩,hll,hal⟩
  ·exact .inr ⟨i1,i2,i3,i4⟩
theorem Gd.mk' {c:Cfg} {a b:Arr} {bad:Nat→Prop} (h:Gd c a bad) (hl:b.disks.length=a.disks.length) (hal:∀ d:Nat,b.alive (d:Int)=a.alive (d:Int)):Gd c b bad:=by
 obtain ⟨q,h1,h2⟩:=h
 exact ⟨q,fun d hd hq=>by rw [hl] at hd;rw [hal];exact h1 d hd hq,by rw [hl];exact h2⟩
theorem MS.A1v {c:Cfg} {a:Arr} {sq:Int} {L:List Txt} {bad:Nat→Prop} {hd:Prop} {n:Nat} (M:MS c a sq L bad hd n) (keep:List Bool) (G:Gd c a bad) (hs:sq+1 < 36028797018963968) :
  (Bc (a.B3 keep) 7).er=0∧(Bc (a.B3 keep) 7).vo=some (c,sq)∧(Bc (a.B3 keep) 7).ar.down=false∧Qt (Bc (a.B3 keep) 7).ar∧(Bc (a.B3 keep) 7).ar.left < 0∧MS c (Bc (a.B3 keep) 7).ar sq L bad hd n ∧
  (Bc (a.B3 keep) 7).ar.disks.length=a.disks.length∧Gd c (Bc (a.B3 keep) 7).ar bad∧Kw (a.B3 keep) 7=some c:=by
 obtain ⟨⟨g,I,rfl,hL,hA⟩,hll,hal⟩:=M
 obtain ⟨q1,q2,q3,q4,q5⟩:=Wt I.dk keep
 have I1:=I.B3 keep
 have hA1:∀ {d p:Nat} {b0:BlkD},AllV 7 a d p b0→AllV 7 (a.B3 keep) d p b0:=fun h=>h.B3 I.dk keep
 have G1:=Gd.mk' G q4 q5
 have hg:=G1.one (by have:=Bd I.conf;omega)
 generalize a.B3 keep=a1 at *
 obtain ⟨S,w⟩:=I1.A3m q2 q1 hg hs
 rcases w with ⟨w1,w2,w3,⟨w4,w5⟩|⟨P,h,_⟩⟩|⟨_,_,_,w,_⟩
 rotate_left
 ·cases h
 ·exact (w (by rw [q3];decide)).elim
 have hA2:∀ {d p:Nat} {b0:BlkD},(∀ n:Nat,(n:Int) < c.st→p=stP c n→b0=stB 7 c n (g.ep n) (g.tx n) d)→AllV 7 a1 d p b0→AllV 7 (Bc a1 7).ar d p b0:=fun hb h=>h.A3m I1 q2 hg hs hb
 refine ⟨w1,w4,w2,w3,S.neg (by rw [q3];decide),⟨⟨g,w5,rfl,hL,fun d hd'=> ?_⟩,hll,fun d hd'=> ?_⟩,by rw [S.len,q4],G1.stp S,I1.head q2 hg⟩
 ·obtain ⟨k1,k2⟩:=hA d (by rw [←q4,←S.len];exact hd')
  refine ⟨fun h=>hA2 (fun n _ h=>by unfold stP at h;omega) (hA1 (k1 h)),fun m hm hm2=>hA2 (fun n _ h=> ?_) (hA1 (k2 m hm hm2))⟩
  have:m=n:=by unfold stP at h;omega
  rw [this]
 ·rw [S.al,q5]
  exact hal d (by rw [←q4,←S.len];exact hd')
end Go.Proofs.YtmbndhciflilbaaGreatDoor.X
namespace Go.Proofs.YtmbndhciflilbaaGreatDoor.X
open F
set_option linter.unusedSimpArgs false
set_option linter.unusedVariables false
def Gz (c:Cfg) (ts:List Txt):Nat→Arr×Int
 | 0=>((Cf (Le c) c 7).ar,0)
 | i+1=>((Am (Gz c ts i).1 7 c (Gz c ts i).2 i (ts[i]?.getD [])).1,(Am (Gz c ts i).1 7 c (Gz c ts i).2 i (ts[i]?.getD [])).2.1)
def A8u (c:Cfg) (ts:List Txt):Nat→List Txt
 | 0=>List.replicate c.st.toNat []
 | i+1=>mWr c (A8u c ts i) i (ts[i]?.getD [])
structure Wh (c:Cfg) (a:Arr) (sq:Int) (L:List Txt):Prop where
 v:VS c a sq L (fun _=>False)
 lf:a.left < 0
 len:(a.disks.length:Int)=c.k+c.m
 al:∀ d:Nat,d < a.disks.length→a.alive (d:Int)=true
theorem Wh.write {c:Cfg} {a:Arr} {sq:Int} {L:List Txt} (W:Wh c a sq L) (hm:0≤c.m) (hs:sq+1 < 36028797018963968) (n:Int) (t:Txt) :
  (Am a 7 c sq n t).2.2=mWrE c n t∧(Am a 7 c sq n t).2.1=(if mWrE c n t=0 then sq+1 else sq)∧Wh c (Am a 7 c sq n t).1 (Am a 7 c sq n t).2.1 (mWr c L n t):=by
 have hl:=W.len
 obtain ⟨e1,e2,V,S⟩:=W.v.write W.lf (by rw [K0 W.al];omega) hs n t
 exact ⟨e1,e2,V,S.neg W.lf,by rw [S.len];exact hl,fun d hd=>by rw [S.al];exact W.al d (by rw [←S.len];exact hd)⟩
theorem Ut {c:Cfg} (hC:Ax c) (ts:List Txt):∀ i:Nat,i < 1000→Wh c (Gz c ts i).1 (Gz c ts i).2 (A8u c ts i)∧0≤(Gz c ts i).2∧(Gz c ts i).2≤i
 | 0,_=>by
  obtain ⟨_,_,V,lf,hl,hal⟩:=VS.make hC
  exact ⟨⟨V,lf,hl,hal⟩,Int.le_refl _,Int.le_refl _⟩
 | i+1,hi=>by
  obtain ⟨W,h0,h1⟩:=Ut hC ts i ω
  have hc:=Bd hC
  obtain ⟨e1,e2,W1⟩:=W.write ω ω i (ts[i]?.getD [])
  refine ⟨W1,?_,?_⟩
  ·show 0≤(Am _ _ _ _ _ _).2.1;rw [e2];split<;>omega
  ·show (Am _ _ _ _ _ _).2.1≤_;rw [e2];push_cast;split<;>omega
theorem Wh.ex {c:Cfg} {a:Arr} {sq:Int} {L:List Txt} (W:Wh c a sq L):EX c a sq L (fun _ _=>false):=W.v.exx W.lf W.al
theorem EX.wh {c:Cfg} {a:Arr} {sq:Int} {L:List Txt} (E:EX c a sq L (fun _ _=>false)):Wh c a sq L :=
 ⟨E.vs (fun _ _=>⟨rfl,fun _ _=>rfl⟩) _,E.lf,E.conf.2.1,E.al⟩
theorem Wh.gd {c:Cfg} {a:Arr} {sq:Int} {L:List Txt} (W:Wh c a sq L):Gd c a (fun _=>False):=by
 obtain ⟨⟨g,I,_⟩,_⟩:=W.v
 exact Gd.all I fun d hd=>⟨W.al d hd,fun h=>h⟩
end Go.Proofs.YtmbndhciflilbaaGreatDoor.X
namespace Go.Proofs.YtmbndhciflilbaaGreatDoor.X
open F
set_option linter.unusedSimpArgs false
set_option linter.unusedVariables false
end Go.Proofs.YtmbndhciflilbaaGreatDoor.X
namespace Go.Proofs.YtmbndhciflilbaaGreatDoor.X
open F
set_option linter.unusedSimpArgs false
set_option linter.unusedVariables false
theorem Ae8 (j:Nat):∀ N,(List.range N).countP (fun d=>decide (j≤d))=N - j
 | 0=>by simp
 | N+1=>by
  rw [List.range_succ,List.countP_append,List.countP_cons,List.countP_nil,Ae8 j N]
  by_cases h:j≤N
  ·simp [h];omega
  ·simp [h];omega
theorem A3q {p q:Nat→Bool} {d:Nat} (h:∀ e,e≠d→p e=true→q e=true):∀ N,(List.range N).countP p≤(List.range N).countP q+if d < N then 1 else 0
 | 0=>by simp
 | N+1=>by
  have ih:=A3q h N
  rw [List.range_succ,List.countP_append,List.countP_append,List.countP_cons,List.countP_nil,List.countP_cons,List.countP_nil]
  by_cases hd:N=d
  ·subst hd
   rw [if_neg (show ¬N < N by omega)] at ih
   rw [if_pos (show N < N+1 by omega)]
   split<;>split<;>omega
  ·have h1:=h N hd
   have e:(if d < N+1 then 1 else 0)=(if d < N then 1 else 0:Nat):=by
    by_cases h2:d < N
    ·rw [if_pos h2,if_pos (show d < N+1 by omega)]
    ·rw [if_neg h2,if_neg (show ¬d < N+1 by omega)]
   rw [e]
   by_cases hp:p N=true
   ·rw [if_pos hp,if_pos (h1 hp)]
    omega
   ·rw [if_neg hp]
    generalize (if q N=true then 1 else 0:Nat)=y
    omega
theorem VS.A1u {c:Cfg} {a:Arr} {sq:Int} {L:List Txt} (V:VS c a sq L (fun _=>False)) {n:Nat} (hn:(n:Int) < c.st):Jx a 7 c n=if c.k≤((Ab a a.disks.length).length:Int) then (((Ab a a.disks.length).length:Int),0) else (0,10):=by
 obtain ⟨⟨g,I,rfl,hL⟩,hdn,hq,hll⟩:=V
 have h1:=I.many hdn hn (fun d=>a.alive (d:Int)) fun d _ h=>⟨h,fun h=>h⟩
 have h2:=I.few hdn hn
 rw [←Dw] at h1
 have:ofN (stE a 7 c n) (g.ep n)=(Ab a a.disks.length).length:=by omega
 rw [I.A8j hdn hn,this]
theorem VS.least {c:Cfg} {a:Arr} {sq:Int} {L:List Txt} (V:VS c a sq L (fun _=>False)) (hl:a.disks.length≤255):∀ k:Nat,(k:Int)≤c.st→Fa a 7 c k 255=if k=0 then (255,0) else if c.k≤((Ab a a.disks.length).length:Int) then (((Ab a a.disks.length).length:Int),0) else (0,10)
 | 0,_=>rfl
 | k+1,hk=>by
  have ih:=V.least hl k ω
  have hh:=V.A1u (n:=k) ω
  have h3:=Dw a a.disks.length
  have h4:=List.countP_le_length (p:=fun d:Nat=>a.alive (d:Int)) (l:=List.range a.disks.length)
  rw [List.length_range] at h4
  rw [Fa,ih,hh]
  by_cases h0:k=0
  ·subst h0
   by_cases h:c.k≤((Ab a a.disks.length).length:Int)
   ·simp [h];omega
   ·simp [h]
  ·by_cases h:c.k≤((Ab a a.disks.length).length:Int)
   ·simp [h,h0]
   ·simp [h,h0]
def Rq (a:Arr) (id:Int) (c:Cfg):Int×Int:=if (Tc a id c).2=0 then ((Tc a id c).1 - c.k,0) else (0,(Tc a id c).2)
theorem VS.A6m {c:Cfg} {a:Arr} {sq:Int} {L:List Txt} (V:VS c a sq L (fun _=>False)) (hl:a.disks.length≤255) (hst:1≤c.st):Rq a 7 c=if c.k≤((Ab a a.disks.length).length:Int) then (((Ab a a.disks.length).length:Int) - c.k,0) else (0,10):=by
 have h:=V.least hl c.st.toNat ω
 rw [if_neg ω] at h
 unfold Rq Tc
 rw [h]
 by_cases h:c.k≤((Ab a a.disks.length).length:Int)
 ·simp [h]
 ·simp [h]
structure FL (c:Cfg) (a:Arr) (sq:Int) (L:List Txt) (j:Nat):Prop where
 v:VS c a sq L (fun _=>False)
 lf:a.left < 0
 len:(a.disks.length:Int)=c.k+c.m
 al:∀ d:Nat,d < a.disks.length→a.alive (d:Int)=decide (j≤d)
theorem Wh.fl {c:Cfg} {a:Arr} {sq:Int} {L:List Txt} (W:Wh c a sq L):FL c a sq L 0:=⟨W.v,W.lf,W.len,fun d hd=>by simp [W.al d hd]⟩
theorem FL.fail {c:Cfg} {a:Arr} {sq:Int} {L:List Txt} {j:Nat} (F:FL c a sq L j) (hj:j < a.disks.length):FL c (a.fail (j:Int)).1 sq L (j+1):=by
 obtain ⟨⟨g,I,e,hL⟩,hdn,hq,hll⟩:=F.v
 obtain ⟨I1,D⟩:=I.fail (bad':=fun _=>False) (fun _ h=>h) hj
 refine ⟨⟨⟨g,I1,e,hL⟩,by rw [D.dn];exact hdn,D.qt hq,hll⟩,by rw [D.lf];exact F.lf,by rw [D.len];exact F.len,fun d hd=> ?_⟩
 rw [D.al]
 by_cases h:d=j
 ·rw [if_pos h];simp;omega
 ·rw [if_neg h,F.al d (by rw [←D.len];exact hd)]
  by_cases h2:j≤d
  ·simp [h2];omega
  ·simp [h2];omega
theorem FL.cnt {c:Cfg} {a:Arr} {sq:Int} {L:List Txt} {j:Nat} (F:FL c a sq L j):(Ab a a.disks.length).length=a.disks.length - j:=by
 rw [Dw,←Ae8 j]
 exact List.countP_congr fun d hd=>by rw [F.al d (List.mem_range.1 hd)]
theorem FL.A6m {c:Cfg} {a:Arr} {sq:Int} {L:List Txt} {j:Nat} (F:FL c a sq L j) (h7:c.k+c.m≤7) (hst:1≤c.st) (hj:j≤c.m+1):Rq a 7 c=if (j:Int)≤c.m then (c.m - j,0) else (0,10):=by
 have hl:=F.len
 have hc:1≤c.k:=by
  obtain ⟨⟨g,I,_⟩,_⟩:=F.v
  have:=Bd I.conf
  omega
 rw [F.v.A6m ω hst,F.cnt]
 by_cases h:(j:Int)≤c.m
 ·rw [if_pos h,if_pos (show c.k≤((a.disks.length - j:Nat):Int) by omega)]
  congr 1
  omega
 ·rw [if_neg h,if_neg (show ¬c.k≤((a.disks.length - j:Nat):Int) by omega)]
theorem VS.drop {c:Cfg} {a:Arr} {sq:Int} {L:List Txt} (V:VS c a sq L (fun _=>False)) (d:Int):VS c (a.fail d).1 sq L (fun _=>False)∧(a.fail d).1.disks.length=a.disks.length∧(Ab a a.disks.length).length≤(Ab (a.fail d).1 (a.fail d).1.disks.length).length+1:=by
 obtain ⟨V1,_,hl⟩:=V.fail d
 refine ⟨V1,hl,?_⟩
 by_cases h:0≤d∧d < (a.disks.length:Int)
 ·obtain ⟨k,rfl⟩:=Int.eq_ofNat_of_zero_le h.1
  obtain ⟨⟨g,I,e,hL⟩,_⟩:=V
  obtain ⟨I1,D⟩:=I.fail (bad':=fun _=>False) (fun _ h=>h) (d:=k) ω
  rw [hl,Dw,Dw]
  have:=A3q (p:=fun e:Nat=>a.alive (e:Int)) (q:=fun e:Nat=>(a.fail (k:Int)).1.alive (e:Int)) (d:=k) (fun e he hp=>by
   show (a.fail (k:Int)).1.alive (e:Int)=true
   rw [D.al,if_neg he];exact hp) a.disks.length
  split at this<;>omega
 ·rw [A8p h]
  omega
structure RB (c:Cfg) (a:Arr) (sq:Int) (L:List Txt) (d n:Nat):Prop where
 m:MS c a sq L (fun e=>e=d) (0 < n) n
 dn:a.down=false
 qt:Qt a
 lf:a.left < 0
 len:(a.disks.length:Int)=c.k+c.m
 dl:d < a.disks.length
 le:(n:Int)≤c.st
theorem Ae9 {d:Nat} : ∀ N,d < N→(List.range N).countP (fun e=>decide (e≠d))+1=N
 | 0,h=>by omega
 | N+1,h=>by
  rw [List.range_succ,List.countP_append,List.countP_cons,List.countP_nil]
  by_cases hd:d=N
  ·subst hd
   have:(List.range d).countP (fun e=>decide (e≠d))=(List.range d).length:=List.countP_eq_length.2 fun e he=>by have:=List.mem_range.1 he;simp;omega
   rw [this]
   simp
  ·have:=Ae9 (d:=d) N ω
   rw [if_pos (show decide (N≠d)=true by simp;omega)]
   omega
theorem RB.gd {c:Cfg} {a:Arr} {sq:Int} {L:List Txt} {d n:Nat} (R:RB c a sq L d n) (hm:1≤c.m):Gd c a (fun e=>e=d):=by
 refine ⟨fun e=>decide (e≠d),fun e he h=>⟨R.m.al e he,by simpa using h⟩,?_⟩
 have h1:=Ae9 a.disks.length R.dl
 have h2:=R.len
 omega
theorem Inv.rb {c:Cfg} {a:Arr} {g:Gh} {L:List Txt} {d:Nat} (I:Inv c 7 g (fun e=>e=d) none a) (hL:∀ n:Nat,(n:Int) < c.st→L[n]? = some (g.tx n)) (hdn:a.down=false) (hq:Qt a) (hll:(L.length:Int)=c.st) (hlf:a.left < 0) (hd:d < a.disks.length)
  (hal:∀ e:Nat,e < a.disks.length→e≠d→a.alive (e:Int)=true):RB c (a.replace (d:Int)).1 g.sq L d 0∧(a.replace (d:Int)).1.disks.length=a.disks.length:=by
 obtain ⟨I1,D⟩:=I.replace hd rfl
 have hl:=I.len
 have hc:=Bd I.conf
 refine ⟨⟨⟨⟨g,I1,rfl,hL,fun e _=>⟨fun h=>by omega,fun m hm=>by omega⟩⟩,hll,fun e he=> ?_⟩,by rw [D.dn];exact hdn,D.qt hq,by rw [D.lf];exact hlf,by rw [D.len];exact hl,by rw [D.len];exact hd,ω⟩,D.len⟩
 rw [D.al]
 split
 ·rfl
 ·exact hal e (by rw [←D.len];exact he) (by assumption)
theorem Wh.rb {c:Cfg} {a:Arr} {sq:Int} {L:List Txt} (W:Wh c a sq L) {d:Nat} (hd:d < a.disks.length):RB c (a.replace (d:Int)).1 sq L d 0∧(a.replace (d:Int)).1.disks.length=a.disks.length:=by
 obtain ⟨⟨g,I,rfl,hL⟩,hdn,hq,hll⟩:=W.v
 exact (I.good fun e _ _=> .inl fun h=>h.elim:Inv c 7 g (fun e=>e=d) none a).rb hL hdn hq hll W.lf hd fun e he _=>W.al e he
theorem RB.step {c:Cfg} {a:Arr} {sq:Int} {L:List Txt} {d n:Nat} (R:RB c a sq L d n) (hC:Ax c) (hs:sq+1 < 36028797018963968) {many:Int} (hm:1≤many) :
  (De a 7 c n many).er=0∧(De a 7 c n many).rp.lo=0∧∃ n':Nat,(De a 7 c n many).rp.nx=n'∧(n':Int)=n+min many (c.st - n)∧(De a 7 c n many).rp.dn=decide ((n':Int)=c.st)∧RB c (De a 7 c n many).ar sq L d n':=by
 have hc:=Bd hC
 have hle:=R.le
 have hm1:1≤c.m:=by have:=hC.1.2.1;have:=hC.2.1;omega
 by_cases hn:(n:Int) < c.st
 ·obtain ⟨S,w⟩:=R.m.step hC R.dn R.qt (R.gd hm1) hs hn hm
  rcases w with ⟨w1,w2,w3,n',w4,w5,w6,w7,w8⟩|⟨_,_,w3,_⟩
  ·exact ⟨w1,w7,n',w4,w5,w6,w8,w2,w3,S.neg R.lf,by rw [S.len];exact R.len,by rw [S.len];exact R.dl,ω⟩
  ·exact (w3 R.lf).elim
 ·have e:(n:Int)=c.st:=by omega
  have hst:1≤c.st:=hC.2.2.2.1.1
  have hk:(min many (c.st - (n:Int))).toNat=0:=by omega
  have hE:De a 7 c n many=⟨a,⟨n,0,0,decide ((n:Int)=c.st)⟩,0⟩:=by
   unfold De
   rw [if_neg ω,if_neg ω,hk]
   rfl
  rw [hE]
  exact ⟨rfl,rfl,n,rfl,ω,rfl,R⟩
theorem RB.wh {c:Cfg} {a:Arr} {sq:Int} {L:List Txt} {d n:Nat} (R:RB c a sq L d n) (hst:1≤c.st) (hn:(n:Int)=c.st):Wh c a sq L :=
 ⟨R.m.vs ω ω R.dn R.qt _,R.lf,R.len,R.m.al⟩
theorem Inv.writeV {c:Cfg} {g:Gh} {bad:Nat→Prop} {a:Arr} (I:Inv c 7 g bad none a) (hdn:a.down=false) (hlf:a.left < 0) {n:Nat} {t:Txt} (hn:(n:Int) < c.st) (ht:(t.length:Int)≤Aw c) (hs:g.sq+1 < 36028797018963968)
  (hk:c.k≤((Ab a a.disks.length).length:Int)) :
  (∀ (d p:Nat) b0,p≠stP c n→(∀ i,p≠slP c i)→AllV 7 a d p b0→AllV 7 (Am a 7 c g.sq n t).1 d p b0)∧∀ d:Nat,d < a.disks.length→a.alive (d:Int)=true→AllV 7 (Am a 7 c g.sq n t).1 d (stP c n) (stB 7 c n (g.sq+1) t d):=by
 have hC:=I.conf
 have h1:=Bd hC
 have hl:=I.len
 have s0:=I.s0
 have hcap:=Lc hC
 have hjn:=I.jn hk
 have I1:=I.begin hn ht
 have i1:(Bk ⟨g.sq,n,t⟩).2=0:=(Hu (i:=⟨g.sq,n,t⟩) ⟨s0,by show g.sq < _;omega,by show (0:Int)≤n;omega,by show (n:Int) < 65536;omega,by show t.length < 65000;omega⟩).1
 have e0:(Am a 7 c g.sq n t).1=(tryR (tryR (tryR (puts ((Ab a (c.m+1).toNat).map (jrB 7 c g.sq (Bk ⟨g.sq,n,t⟩).1)) a) Bv) fun a'=>vshR a' 7 c n (g.sq+1) t (Ab a a.disks.length)) Bv).1:=by
  unfold Am
  rw [if_neg ω,if_neg ω,if_neg (by simp [hdn])]
  simp only
  rw [if_neg (by rintro (h|h);omega;exact hjn (List.length_eq_zero_iff.1 h)),i1,N4]
 rw [e0]
 have hJ:∀ b∈(Ab a (c.m+1).toNat).map (jrB 7 c g.sq (Bk ⟨g.sq,n,t⟩).1),J6 c 7 g bad (some ⟨n,t,false⟩) a b:=by
  intro b hb
  obtain ⟨d,hd,rfl⟩:=List.mem_map.1 hb
  obtain ⟨e,rfl,he,hal⟩:=C5.1 hd
  exact (I1.putJ ω hal).1
 have hA1:∀ (d p:Nat) b0,(∀ i,p≠slP c i)→AllV 7 a d p b0→AllV 7 (puts ((Ab a (c.m+1).toNat).map (jrB 7 c g.sq (Bk ⟨g.sq,n,t⟩).1)) a).1 d p b0:=fun d p b0 hp h=>by
  refine h.puts _ I1 hdn hJ fun b hb _ h2=> ?_
  obtain ⟨d',hd',rfl⟩:=List.mem_map.1 hb
  have h2:1+g.sq % c.sl=(p:Int):=h2
  have h3:=(Wm hC g.sq).1
  exact (hp g.sq ω).elim
 obtain ⟨I2,S2,k⟩:=I1.Wj _ hdn hJ
 generalize hp:puts ((Ab a (c.m+1).toNat).map (jrB 7 c g.sq (Bk ⟨g.sq,n,t⟩).1)) a=p at *
 obtain ⟨a1,e1⟩:=p
 simp only at I2 S2 k hA1
 rcases k with ⟨rfl,d1,k⟩|⟨rfl,d1,k⟩
 rotate_left
 ·exact (k hlf).elim
 rw [Gq (p:=(a1,0)) rfl,(Cp d1).1,Gq (p:=(a1.flush,0)) rfl]
 have d2:=(Cp d1).2
 obtain ⟨d0,hd0⟩:=List.exists_mem_of_ne_nil _ hjn
 obtain ⟨e,rfl,he,hal⟩:=C5.1 hd0
 have hjr:AllV 7 a1.flush e (slP c g.sq) (jB 7 c g ⟨n,t,true⟩ e):=by
  refine Lst.flush d1 I2.dk (k e (slP c g.sq) _ (fun b hb hbp=> ?_) (.inr ⟨?_,?_,?_⟩))
  ·obtain ⟨d,hd,rfl⟩:=List.mem_map.1 hb
   have:d=(e:Int):=hbp.1
   subst this
   exact (I1.putJ ω hal).2
  ·rw [←(I1.putJ (d:=e) ω hal).2]
   exact List.mem_map.2 ⟨_,hd0,rfl⟩
  ·rfl
  ·rfl
 have hi2:=(Hu (i:=⟨g.sq,n,t⟩) ⟨s0,by show g.sq < _;omega,by show (0:Int)≤n;omega,by show (n:Int) < 65536;omega,by show t.length < 65000;omega⟩).2.1
 have hjr':AllJ 7 c g ⟨n,t,true⟩ a1.flush e:=by
  obtain ⟨x,x1,x2,x3,x4⟩:=hjr
  refine ⟨x,x1,x2,x3,fun s hs=> ?_⟩
  have:=x4 s hs
  unfold Ownd at this
  exact ⟨by rw [this],by rw [this];exact hi2⟩
 have I3:=(I2.flush).A1m ⟨e,ω,hjr'⟩
 have S3:=S2.trans (Stp.flush a1)
 have e3:vshR a1.flush 7 c n (g.sq+1) t (Ab a a.disks.length)=puts ((Ab a a.disks.length).map (shB 7 (Au c n) (g.sq+1) (splR c t).1)) a1.flush:=by
  unfold vshR
  rw [if_pos (spl0 hC ht),He]
 simp only [e3]
 have hS:∀ b∈(Ab a a.disks.length).map (shB 7 (Au c n) (g.sq+1) (splR c t).1),J6 c 7 g bad (some ⟨n,t,true⟩) a1.flush b:=by
  intro b hb
  obtain ⟨d,hd,rfl⟩:=List.mem_map.1 hb
  obtain ⟨e,rfl,he,hal⟩:=C5.1 hd
  rw [Hf hC hn]
  exact I3.A3e hn ω hs ht (.inr ⟨_,rfl,rfl,rfl,rfl,rfl⟩) (by rw [S3.len];exact he) (by rw [S3.al];exact hal)
 have hA2:∀ (d p:Nat) b0,p≠stP c n→AllV 7 a1.flush d p b0→AllV 7 (puts ((Ab a a.disks.length).map (shB 7 (Au c n) (g.sq+1) (splR c t).1)) a1.flush).1 d p b0:=fun d p b0 hp h=>by
  refine h.puts _ I3 d2 hS fun b hb _ h2=> ?_
  obtain ⟨d',hd',rfl⟩:=List.mem_map.1 hb
  have h2:Au c n=(p:Int):=h2
  rw [Er hC hn] at h2
  exact (hp ω).elim
 obtain ⟨I4,S4,k4⟩:=I3.Wj _ d2 hS
 generalize hp4:puts ((Ab a a.disks.length).map (shB 7 (Au c n) (g.sq+1) (splR c t).1)) a1.flush=p4 at *
 obtain ⟨a4,e4⟩:=p4
 simp only at I4 S4 k4 hA2
 rcases k4 with ⟨rfl,d4,k4⟩|⟨rfl,d4,k4⟩
 rotate_left
 ·exact (k4 (S3.neg hlf)).elim
 rw [Gq (p:=(a4,0)) rfl,(Cp d4).1]
 have S5:=(S3.trans S4).trans (Stp.flush a4)
 refine ⟨fun d p b0 hp1 hp2 h=>(hA2 d p b0 hp1 ((hA1 d p b0 hp2 h).flush I2.dk)).flush I4.dk,fun d hd' hal'=> ?_⟩
 have hmem:(d:Int)∈Ab a a.disks.length:=C5.2 ⟨d,rfl,hd',hal'⟩
 refine Lst.flush d4 I4.dk (k4 d (stP c n) _ (fun b hb hbp=> ?_) (.inr ⟨List.mem_map.2 ⟨_,hmem,Hf hC hn d⟩,rfl,rfl⟩))
 obtain ⟨d',hd',rfl⟩:=List.mem_map.1 hb
 have:d'=(d:Int):=hbp.1
 subst this
 exact Hf hC hn d
theorem RB.write {c:Cfg} {a:Arr} {sq:Int} {L:List Txt} {d n:Nat} (R:RB c a sq L d n) (hs:sq+1 < 36028797018963968) (i:Int) (t:Txt) :
  (Am a 7 c sq i t).2.2=mWrE c i t∧(Am a 7 c sq i t).2.1=(if mWrE c i t=0 then sq+1 else sq)∧RB c (Am a 7 c sq i t).1 (Am a 7 c sq i t).2.1 (mWr c L i t) d n:=by
 obtain ⟨⟨g,I,rfl,hL,hA⟩,hll,hal⟩:=R.m
 have hm0:0≤c.m:=I.conf.1.2.1
 have hkk:c.k≤((Ab a a.disks.length).length:Int):=by rw [K0 hal];have:=R.len;omega
 have V:VS c a g.sq L (fun e=>e=d):=⟨⟨g,I,rfl,hL⟩,R.dn,R.qt,hll⟩
 obtain ⟨e1,e2,V1,S⟩:=V.write R.lf hkk hs i t
 refine ⟨e1,e2,?_,V1.dn,V1.qt,S.neg R.lf,by rw [S.len];exact R.len,by rw [S.len];exact R.dl,R.le⟩
 by_cases h1:i < 0∨c.st≤i
 ·have e:Am a 7 c g.sq i t=(a,g.sq,1):=by unfold Am;rw [if_pos h1]
  have e1:mWrE c i t=1:=by unfold mWrE;rw [if_pos h1]
  have e2:mWr c L i t=L:=by unfold mWr;rw [e1];rfl
  rw [e,e2]
  exact R.m
 by_cases h2:Aw c < t.length
 ·have e:Am a 7 c g.sq i t=(a,g.sq,12):=by unfold Am;rw [if_neg h1,if_pos h2]
  have e1:mWrE c i t=12:=by unfold mWrE;rw [if_neg h1,if_pos h2]
  have e2:mWr c L i t=L:=by unfold mWr;rw [e1];rfl
  rw [e,e2]
  exact R.m
 have e3:mWrE c i t=0:=by unfold mWrE;rw [if_neg h1,if_neg h2]
 obtain ⟨k,rfl⟩:=Int.eq_ofNat_of_zero_le (show 0≤i by omega)
 obtain ⟨S',w⟩:=I.write R.dn (n:=k) (t:=t) ω ω hs hkk
 obtain ⟨v1,v2⟩:=I.writeV R.dn R.lf (n:=k) (t:=t) ω ω hs hkk
 rcases w with ⟨w1,w2,w3,w4⟩|⟨_,_,w3,_⟩
 rotate_left
 ·exact (w3 R.lf).elim
 have e4:(Am a 7 c g.sq (k:Int) t).2.1=(g.upd k t).sq:=by rw [w1];rfl
 obtain ⟨⟨g',_,eg,hL'⟩,_,_,hll'⟩:=V1
 rw [e4]
 refine ⟨⟨g.upd k t,w3,rfl,fun m hm=> ?_,fun f hf=>⟨fun h=> ?_,fun m hm hm2=> ?_⟩⟩,hll',fun f hf=>by rw [S.al];exact hal f (by rw [←S.len];exact hf)⟩
 ·unfold mWr
  rw [e3]
  simp only [if_true,Int.toNat_natCast,Gh.upd]
  rw [List.getElem?_set]
  by_cases hmk:m=k
  ·subst hmk
   rw [if_pos rfl,if_pos rfl,if_pos ω]
  ·rw [if_neg (fun h=>hmk h.symm),if_neg hmk]
   exact hL m hm
 ·exact v1 _ _ _ (by unfold stP;omega) (fun i=>by unfold slP;omega) ((hA f (by rw [←S.len];exact hf)).1 h)
 ·have hf':f < a.disks.length:=by rw [←S.len];exact hf
  by_cases hmk:m=k
  ·subst hmk
   simp only [Gh.upd,if_true]
   exact v2 f hf' (hal f hf')
  ·simp only [Gh.upd,if_neg hmk]
   exact v1 _ _ _ (by unfold stP;omega) (fun i=>A6j I.conf i m) ((hA f hf').2 m hm hm2)
end Go.Proofs.YtmbndhciflilbaaGreatDoor.X
namespace Go.Proofs.YtmbndhciflilbaaGreatDoor.X
open F
set_option linter.unusedSimpArgs false
set_option linter.unusedVariables false
theorem EX.vsb {c:Cfg} {a:Arr} {sq:Int} {L:List Txt} {X:Nat→Nat→Bool} {bd:List Bool} (E:EX c a sq L X) (hX:∀ d p:Nat,X d p=true→bd[d]? = some true):VS c a sq L (bdP bd):=by
 obtain ⟨⟨g,I,e,hL,hx⟩,hdn,hq,hll,hal,hlf⟩:=E
 have all:∀ {d p:Nat} {b:BlkD},Lst 7 a d p b→AllV 7 a d p b:=fun ⟨x,h1,h2,h3,h4⟩=>⟨x,h1,h2,h3,fun s hs=>by rw [hq.vers h1 h3 hs];exact h4⟩
 refine ⟨⟨g,I.good fun d hd _=> ?_,e,hL⟩,hdn,hq,hll⟩
 by_cases hb:bdP bd d
 ·exact .inl fun _=>hb
 ·right
  have hf:∀ p,X d p=false:=fun p=>by
   cases h:X d p with
   | false=>rfl
   | true=>exact (hb (hX d p h)).elim
  obtain ⟨k1,_,k3⟩:=hx d hd
  exact ⟨all (k1 (hf 0)),fun n hn=>all ((k3 n hn).1 (hf _))⟩
structure SB (c:Cfg) (a:Arr) (sq:Int) (L:List Txt) (bad:Nat→Prop) (n:Nat):Prop where
 m:MS c a sq L bad (0 < n) n
 gd:Gd c a bad
 len:(a.disks.length:Int)=c.k+c.m
 le:(n:Int)≤c.st
theorem EX.sb {c:Cfg} {a:Arr} {sq:Int} {L:List Txt} {X:Nat→Nat→Bool} {bd:List Bool} (E:EX c a sq L X) (hX:∀ d p:Nat,X d p=true→bd[d]? = some true) (hbl:(bd.length:Int)=c.k+c.m) (hm:(bads bd:Int)≤c.m):SB c a sq L (bdP bd) 0:=by
 have V:=E.vsb hX
 have hc:=Bd E.conf.1
 have s:SS c a sq L bd:=⟨V,E.lf,hbl,E.conf.2.1,fun d hd=>E.al d (by have:=(List.getElem?_eq_some_iff.1 hd).1;have:=E.conf.2.1;omega),hm⟩
 obtain ⟨⟨g,I,e,hL⟩,hdn,hq,hll⟩:=V
 exact ⟨⟨⟨g,I,e,hL,fun d _=>⟨fun h=>by omega,fun m hm=>by omega⟩⟩,hll,E.al⟩,s.good,E.conf.2.1,ω⟩
theorem RB.sb {c:Cfg} {a:Arr} {sq:Int} {L:List Txt} {d n:Nat} (R:RB c a sq L d n) (hm:1≤c.m):SB c a sq L (fun e=>e=d) n:=⟨R.m,R.gd hm,R.len,R.le⟩
section
variable {c:Cfg} {a:Arr} {sq:Int} {L:List Txt} {bad:Nat→Prop} {n:Nat}
theorem Zf (a:Arr) (f:Int):(a.fuse f).disks=a.disks∧(a.fuse f).down=a.down∧∀ d:Int,(a.fuse f).alive d=a.alive d:=by
 unfold Arr.fuse
 split
 ·exact ⟨rfl,rfl,fun _=>rfl⟩
 ·exact ⟨rfl,rfl,fun _=>rfl⟩
theorem SB.fuse (S:SB c a sq L bad n) (f:Int):SB c (a.fuse f) sq L bad n:=by
 obtain ⟨e1,e2,e3⟩:=Zf a f
 obtain ⟨⟨⟨g,I,e,hL,hA⟩,hll,hal⟩,hgd,hlen,hle⟩:=S
 refine ⟨⟨⟨g,I.fuse f,e,hL,fun d hd=> ?_⟩,hll,fun d hd=> ?_⟩,hgd.mk' (by rw [e1]) fun d=>e3 d,by rw [e1];exact hlen,hle⟩
 ·rw [e1] at hd
  exact ⟨fun h=>((hA d hd).1 h).dsks e1,fun m h1 h2=>((hA d hd).2 m h1 h2).dsks e1⟩
 ·rw [e1] at hd
  rw [e3]
  exact hal d hd
theorem SB.step (S:SB c a sq L bad n) (hC:Ax c) (hdn:a.down=false) (hq:Qt a) (hs:sq+1 < 36028797018963968) (hn:(n:Int) < c.st) {many:Int} (hm:1≤many) :
  ((De a 7 c n many).er=0∧(De a 7 c n many).ar.down=false∧Qt (De a 7 c n many).ar∧(De a 7 c n many).rp.lo=0∧∃ n':Nat,(De a 7 c n many).rp.nx=n'∧(n':Int)=n+min many (c.st - n)∧(De a 7 c n many).rp.dn=decide ((n':Int)=c.st)∧(a.left < 0→(De a 7 c n many).ar.left < 0)∧SB c (De a 7 c n many).ar sq L bad n') ∨
  ((De a 7 c n many).er=9∧¬a.left < 0∧SB c (De a 7 c n many).ar sq L bad n):=by
 obtain ⟨T,w⟩:=S.m.step hC hdn hq S.gd hs hn hm
 have hl:=S.len
 rcases w with ⟨w1,w2,w3,n',w4,w5,w6,w7,w8⟩|⟨w1,_,wl,w4⟩
 ·exact .inl ⟨w1,w2,w3,w7,n',w4,w5,w6,T.neg,w8,S.gd.stp T,by rw [T.len];exact hl,ω⟩
 ·exact .inr ⟨w1,wl,w4,S.gd.stp T,by rw [T.len];exact hl,S.le⟩
theorem SB.A1v (S:SB c a sq L bad n) (keep:List Bool) (hs:sq+1 < 36028797018963968) :
  (Bc (a.B3 keep) 7).er=0∧(Bc (a.B3 keep) 7).vo=some (c,sq)∧Kw (a.B3 keep) 7=some c∧(Bc (a.B3 keep) 7).ar.down=false∧Qt (Bc (a.B3 keep) 7).ar∧(Bc (a.B3 keep) 7).ar.disks.length=a.disks.length∧(Bc (a.B3 keep) 7).ar.left < 0∧SB c (Bc (a.B3 keep) 7).ar sq L bad n:=by
 obtain ⟨r1,r2,r3,r4,r5,r6,r7,r8,r9⟩:=S.m.A1v keep S.gd hs
 exact ⟨r1,r2,r9,r3,r4,r7,r5,r6,r8,by rw [r7];exact S.len,S.le⟩
theorem SB.done (S:SB c a sq L bad n) (hst:1≤c.st) (h7:c.k+c.m≤7) (hn:(n:Int)=c.st) (hdn:a.down=false) (hq:Qt a):VS c a sq L (fun _=>False)∧Tc a 7 c=(c.k+c.m,0)∧Rq a 7 c=(c.m,0):=by
 have V:VS c a sq L (fun _=>False):=S.m.vs ω ω hdn hq _
 have hl:=S.len
 have hal:=K0 S.m.al
 have hc:=Bd (show Ax c by obtain ⟨⟨g,I,_⟩,_⟩:=V;exact I.conf)
 have hm0:0≤c.m:=by obtain ⟨⟨g,I,_⟩,_⟩:=V;exact I.conf.1.2.1
 have h:=V.least ω c.st.toNat ω
 rw [if_neg ω,hal,if_pos ω,hl] at h
 have h':Tc a 7 c=(c.k+c.m,0):=h
 refine ⟨V,h',?_⟩
 unfold Rq
 rw [h']
 simp
 omega
end
end Go.Proofs.YtmbndhciflilbaaGreatDoor.X
namespace Go.Proofs.YtmbndhciflilbaaGreatDoor.X
open F
set_option linter.unusedSimpArgs false
set_option linter.unusedVariables false
def prtT (z:Nat) (T:Txt) (n:Nat):Txt:=(T.drop (n * z)).take z
theorem A3r (z:Nat) (T:Txt) (n:Nat):(prtT z T n).length=min z (T.length - n * z):=by
 unfold prtT
 rw [List.length_take,List.length_drop]
theorem Aam {z:Nat} {T U:Txt} {n:Nat} (h:(n+1) * z≤T.length):prtT z (T ++ U) n=prtT z T n:=by
 unfold prtT
 rw [Nat.add_mul,Nat.one_mul] at h
 rw [List.drop_append_of_le_length ω,List.take_append_of_le_length (by rw [List.length_drop];omega)]
def txtL (z:Nat):List Txt→Txt
 | []=>[]
 | s :: l=>if s.length < z then s else s ++ txtL z l
def prts (z:Nat) (T:Txt) (count:Nat):List Txt:=(List.range count).map (prtT z T)
@[simp] theorem Nc (z:Nat) (T:Txt) (count:Nat):(prts z T count).length=count:=by simp [prts]
theorem Aan (z:Nat) (T:Txt) (count:Nat):prts z T (count+1)=T.take z :: prts z (T.drop z) count:=by
 unfold prts
 rw [List.range_succ_eq_map,List.map_cons,List.map_map]
 congr 1
 ·simp [prtT]
 ·refine List.map_congr_left fun n _=> ?_
  show prtT z T (n+1)=prtT z (T.drop z) n
  unfold prtT
  rw [List.drop_drop]
  congr 2
  rw [Nat.add_mul,Nat.one_mul,Nat.add_comm]
theorem Pj {z:Nat} (hz:0 < z):∀ (count:Nat) (T:Txt),T.length≤count * z→txtL z (prts z T count)=T
 | 0,T,h=>by
  have:T=[]:=List.eq_nil_of_length_eq_zero ω
  subst this
  rfl
 | count+1,T,h=>by
  rw [Aan,txtL]
  by_cases hl:(T.take z).length < z
  ·rw [if_pos hl]
   rw [List.length_take] at hl
   exact List.take_of_length_le ω
  ·rw [if_neg hl]
   rw [List.length_take] at hl
   rw [Pj hz count (T.drop z) (by rw [List.length_drop];rw [Nat.add_mul] at h;omega)]
   exact List.take_append_drop _ _
structure LG (c:Cfg) (a:Arr) (sq:Int) (L:List Txt) (from_ count:Nat) (P:List Txt):Prop where
 w:Wh c a sq L
 ll:(L.length:Int)=c.st
 fc:((from_+count:Nat):Int)≤c.st
 pl:P.length=count
 at_:∀ i:Nat,i < count→L[from_+i]? = P[i]?
 s0:0≤sq
theorem LG.put {c:Cfg} {a:Arr} {sq:Int} {L:List Txt} {from_ count:Nat} {P:List Txt} (G:LG c a sq L from_ count P) (hm:0≤c.m) (hs:sq+1 < 36028797018963968) {n:Nat} (hn:n < count) {s:Txt} (hl:(s.length:Int)≤Aw c) :
  (Am a 7 c sq ((from_+n:Nat):Int) s).2.2=0∧(Am a 7 c sq ((from_+n:Nat):Int) s).2.1=sq+1∧LG c (Am a 7 c sq ((from_+n:Nat):Int) s).1 (Am a 7 c sq ((from_+n:Nat):Int) s).2.1 (L.set (from_+n) s) from_ count (P.set n s):=by
 obtain ⟨w1,w2,w3⟩:=G.w.write hm hs ((from_+n:Nat):Int) s
 have hfc:=G.fc
 have hll:=G.ll
 have hE:mWrE c ((from_+n:Nat):Int) s=0:=by
  unfold mWrE
  rw [if_neg ω,if_neg ω]
 have hL:mWr c L ((from_+n:Nat):Int) s=L.set (from_+n) s:=by
  unfold mWr
  rw [if_pos hE,Int.toNat_natCast]
 rw [hE] at w1 w2
 rw [if_pos rfl] at w2
 rw [hL] at w3
 refine ⟨w1,w2,w3,by rw [List.length_set];exact hll,G.fc,by rw [List.length_set];exact G.pl,fun i hi=> ?_,by rw [w2];have:=G.s0;omega⟩
 rw [List.getElem?_set,List.getElem?_set,G.at_ i hi]
 have hpl:=G.pl
 by_cases h:n=i
 ·subst h
  rw [if_pos rfl,if_pos rfl,if_pos ω,if_pos ω]
 ·rw [if_neg ω,if_neg h]
def mixP (z:Nat) (A B:Txt) (count n:Nat):List Txt:=(List.range count).map fun i=>if i < n then prtT z A i else prtT z B i
@[simp] theorem Hw (z:Nat) (A B:Txt) (count n:Nat):(mixP z A B count n).length=count:=by simp [mixP]
theorem Uu {z:Nat} {A B:Txt} {count n i:Nat} (h:i < count):(mixP z A B count n)[i]? = some (if i < n then prtT z A i else prtT z B i):=by
 unfold mixP
 rw [List.getElem?_map,List.getElem?_range h]
 rfl
theorem Ww {z:Nat} {A B A' B':Txt} {count n n':Nat} (h:∀ i,i < count→(if i < n then prtT z A i else prtT z B i)=if i < n' then prtT z A' i else prtT z B' i):mixP z A B count n=mixP z A' B' count n':=by
 unfold mixP
 exact List.map_congr_left fun i hi=>h i (List.mem_range.1 hi)
theorem Wx (z:Nat) (A B:Txt) (count:Nat):mixP z A B count count=prts z A count:=by
 unfold mixP prts
 exact List.map_congr_left fun i hi=>by rw [if_pos (List.mem_range.1 hi)]
theorem Pk (z:Nat) (A B:Txt) (count:Nat):mixP z A B count 0=prts z B count:=by
 unfold mixP prts
 exact List.map_congr_left fun i hi=>by rw [if_neg ω]
theorem A8v {z:Nat} {A B:Txt} {count n:Nat} (hn:n < count):(mixP z A B count n).set n (prtT z A n)=mixP z A B count (n+1):=by
 apply List.ext_getElem?
 intro i
 rw [List.getElem?_set]
 by_cases hi:i < count
 ·rw [Uu hi,Uu hi]
  by_cases h:n=i
  ·subst h
   rw [if_pos rfl,if_pos (by rw [Hw];exact hn),if_pos ω]
  ·rw [if_neg h]
   congr 1
   by_cases h2:i < n
   ·rw [if_pos h2,if_pos ω]
   ·rw [if_neg h2,if_neg ω]
 ·rw [if_neg ω,List.getElem?_eq_none (by rw [Hw];omega),List.getElem?_eq_none (by rw [Hw];omega)]
theorem A8w {z:Nat} {A B:Txt} {count n:Nat} (hn:n < count):(mixP z A B count (n+1)).set n (prtT z B n)=mixP z A B count n:=by
 apply List.ext_getElem?
 intro i
 rw [List.getElem?_set]
 by_cases hi:i < count
 ·rw [Uu hi,Uu hi]
  by_cases h:n=i
  ·subst h
   rw [if_pos rfl,if_pos (by rw [Hw];exact hn),if_neg ω]
  ·rw [if_neg h]
   congr 1
   by_cases h2:i < n
   ·rw [if_pos h2,if_pos ω]
   ·rw [if_neg h2,if_neg ω]
 ·rw [if_neg ω,List.getElem?_eq_none (by rw [Hw];omega),List.getElem?_eq_none (by rw [Hw];omega)]
theorem Qg {z:Nat} {T U:Txt} {count:Nat} : mixP z (T ++ U) T count (T.length / z)=prts z T count:=by
 rw [←Pk z (T ++ U) T count]
 refine Ww fun i hi=> ?_
 rw [if_neg (Nat.not_lt_zero i)]
 by_cases h:i < T.length / z
 ·rw [if_pos h]
  refine Aam ?_
  have h1:(i+1) * z≤T.length / z * z:=Nat.mul_le_mul_right _ h
  have h2:=Nat.div_mul_le_self T.length z
  omega
 ·rw [if_neg h]
end Go.Proofs.YtmbndhciflilbaaGreatDoor.X
namespace Go.Proofs.YtmbndhciflilbaaGreatDoor.X
open F
set_option linter.unusedSimpArgs false
set_option linter.unusedVariables false
theorem Zg {z:Nat} {U:Txt} {M i:Nat} (h:(i+1) * z≤M):prtT z (U.take M) i=prtT z U i:=by
 unfold prtT
 rw [Nat.add_mul,Nat.one_mul] at h
 rw [List.drop_take,List.take_take,Nat.min_eq_left ω]
theorem Rr {z:Nat} {U:Txt} {i:Nat} (h:U.length≤i * z):prtT z U i=[]:=by
 unfold prtT
 rw [List.drop_of_length_le h,List.take_nil]
theorem mix_up {z:Nat} (hz:0 < z) {T U:Txt} {count j:Nat} (hj:T.length / z≤j) (hl:(T ++ U).length≤count * z):∃ m,T.length≤m∧mixP z (T ++ U) T count j=prts z ((T ++ U).take m) count:=by
 rcases Nat.lt_or_eq_of_le hj with hj|hj
 rotate_left
 ·subst hj
  exact ⟨T.length,Nat.le_refl _,by rw [Qg,List.take_append_of_le_length (Nat.le_refl _),List.take_length]⟩
 have h1:T.length < j * z:=by
  have h2:=Nat.lt_div_mul_add (a:=T.length) hz
  have h3:(T.length / z+1) * z≤j * z:=Nat.mul_le_mul_right _ hj
  rw [Nat.add_mul,Nat.one_mul] at h3
  omega
 refine ⟨j * z,ω,?_⟩
 rw [←Pk z T ((T ++ U).take (j * z)) count]
 refine Ww fun i hi=> ?_
 rw [if_neg (Nat.not_lt_zero i)]
 by_cases h:i < j
 ·rw [if_pos h,Zg (Nat.mul_le_mul_right _ h)]
 ·have h4:j * z≤i * z:=Nat.mul_le_mul_right _ ω
  rw [if_neg h,Rr ω,Rr (by rw [List.length_take];omega)]
theorem mix_dn {z:Nat} (hz:0 < z) {T:Txt} {m count j:Nat} : mixP z T (T.take m) count j=prts z (T.take (max m (j * z))) count:=by
 rw [←Pk z T (T.take (max m (j * z))) count]
 refine Ww fun i hi=> ?_
 rw [if_neg (Nat.not_lt_zero i)]
 by_cases h:i < j
 ·have h4:(i+1) * z≤j * z:=Nat.mul_le_mul_right _ h
  rw [if_pos h,Zg ω]
 ·rw [if_neg h]
  have h4:j * z≤i * z:=Nat.mul_le_mul_right _ ω
  by_cases hm:j * z≤m
  ·rw [Nat.max_eq_left hm]
  ·rw [Nat.max_eq_right ω,Rr (by rw [List.length_take];omega),Rr (by rw [List.length_take];omega)]
structure LF (c:Cfg) (a:Arr) (sq:Int) (L:List Txt) (from_ count:Nat) (P:List Txt):Prop where
 v:VS c a sq L (fun _=>False)
 len:(a.disks.length:Int)=c.k+c.m
 al:∀ d:Nat,d < a.disks.length→a.alive (d:Int)=true
 ll:(L.length:Int)=c.st
 fc:((from_+count:Nat):Int)≤c.st
 pl:P.length=count
 at_:∀ i:Nat,i < count→L[from_+i]? = P[i]?
 s0:0≤sq
theorem LG.lf {c:Cfg} {a:Arr} {sq:Int} {L:List Txt} {from_ count:Nat} {P:List Txt} (G:LG c a sq L from_ count P):LF c a sq L from_ count P:=⟨G.w.v,G.w.len,G.w.al,G.ll,G.fc,G.pl,G.at_,G.s0⟩
theorem LF.put {c:Cfg} {a:Arr} {sq:Int} {L:List Txt} {from_ count:Nat} {P:List Txt} (G:LF c a sq L from_ count P) (hm:0≤c.m) {B:Int} (hs:sq < B∧B≤1000) {n:Nat} (hn:n < count) {s:Txt} (hl:(s.length:Int)≤Aw c) :
  Stp a (Am a 7 c sq ((from_+n:Nat):Int) s).1 ∧
  (((Am a 7 c sq ((from_+n:Nat):Int) s).2.2=0∧(Am a 7 c sq ((from_+n:Nat):Int) s).2.1=sq+1∧LF c (Am a 7 c sq ((from_+n:Nat):Int) s).1 (Am a 7 c sq ((from_+n:Nat):Int) s).2.1 (L.set (from_+n) s) from_ count (P.set n s)) ∨
   ((Am a 7 c sq ((from_+n:Nat):Int) s).2.2=9∧(Am a 7 c sq ((from_+n:Nat):Int) s).2.1=sq∧(Am a 7 c sq ((from_+n:Nat):Int) s).1.down=true∧¬a.left < 0∧RS c (Am a 7 c sq ((from_+n:Nat):Int) s).1 L (L.set (from_+n) s) B)):=by
 have hfc:=G.fc
 have hll:=G.ll
 have hkk:c.k≤((Ab a a.disks.length).length:Int):=by rw [K0 G.al];have:=G.len;omega
 have hE:mWrE c ((from_+n:Nat):Int) s=0:=by
  unfold mWrE
  rw [if_neg ω,if_neg ω]
 have hL:mWr c L ((from_+n:Nat):Int) s=L.set (from_+n) s:=by
  unfold mWr
  rw [if_pos hE,Int.toNat_natCast]
 obtain ⟨S,w⟩:=G.v.writeF hkk G.s0 hs ((from_+n:Nat):Int) s
 rw [hE,hL,if_pos rfl] at w
 refine ⟨S,?_⟩
 rcases w with ⟨w1,w2,w3⟩|⟨w1,_,w2,w3⟩
 ·left
  refine ⟨w1,w2,w3,by rw [S.len];exact G.len,fun d hd=>by rw [S.al];exact G.al d (by rw [←S.len];exact hd),by rw [List.length_set];exact hll,hfc,by rw [List.length_set];exact G.pl,fun i hi=> ?_,by rw [w2];have:=G.s0;omega⟩
  rw [List.getElem?_set,List.getElem?_set,G.at_ i hi]
  have hpl:=G.pl
  by_cases h:n=i
  ·subst h
   rw [if_pos rfl,if_pos rfl,if_pos ω,if_pos ω]
  ·rw [if_neg ω,if_neg h]
 ·right
  obtain ⟨⟨g,I,rfl,_⟩,hdn,_⟩:=G.v
  obtain ⟨_,k⟩:=I.write hdn (n:=from_+n) (t:=s) ω hl ω hkk
  rcases k with ⟨k1,_⟩|⟨_,k2,k3,_⟩
  ·rw [k1] at w1
   exact absurd w1 μ
  ·exact ⟨w1,w2,k2,k3,w3⟩
end Go.Proofs.YtmbndhciflilbaaGreatDoor.X
namespace Go.Proofs.YtmbndhciflilbaaGreatDoor.X
open F
set_option linter.unusedSimpArgs false
set_option linter.unusedVariables false
theorem RS.again {c:Cfg} {a:Arr} {L0 L1:List Txt} {B:Int} (R:RS c a L0 L1 B) (hl:(a.disks.length:Int)=c.k+c.m) (hal:∀ d:Nat,d < a.disks.length→a.alive (d:Int)=true) (keep:List Bool) :
  Kw (a.B3 keep) 7=some c∧(Bc (a.B3 keep) 7).er=0∧(Bc (a.B3 keep) 7).ar.disks.length=a.disks.length∧∃ sq L',(Bc (a.B3 keep) 7).vo=some (c,sq)∧0≤sq∧sq≤B∧Wh c (Bc (a.B3 keep) 7).ar sq L'∧(L'=L0∨L'=L1):=by
 obtain ⟨R1,q1,q2,q3,q4,q5⟩:=R.B3 keep
 have hal1:∀ d:Nat,d < (a.B3 keep).disks.length→(a.B3 keep).alive (d:Int)=true:=fun d hd=>by rw [q5];exact hal d (by rw [←q4];exact hd)
 have G:Gd c (a.B3 keep) (fun _=>False):=by
  obtain ⟨⟨g,pd,I,_⟩,_⟩:=R1
  exact Gd.all I fun d hd=>⟨hal1 d hd,fun h=>h⟩
 obtain ⟨o0,S,w⟩:=R1.open_ q2 q1 G
 refine ⟨o0,?_⟩
 rcases w with ⟨w1,sq,L',w2,w3,w4,w5,w6⟩|⟨_,_,_,w,_⟩
 ·exact ⟨w1,by rw [S.len,q4],sq,L',w2,w3,w4,⟨w5,S.neg (by rw [q3];decide),by rw [S.len,q4];exact hl,fun d hd=>by rw [S.al];exact hal1 d (by rw [←S.len];exact hd)⟩,w6⟩
 ·exact (w (by rw [q3];decide)).elim
structure LT (c:Cfg) (a:Arr) (sq:Int) (L:List Txt) (from_ count:Nat) (T:Txt):Prop where
 g:LF c a sq L from_ count (prts (Aw c).toNat T count)
 le:T.length≤count * (Aw c).toNat
def OutL (L L':List Txt) (from_ count:Nat):Prop:= ∀ i:Nat,i < from_∨from_+count≤i→L'[i]? = L[i]?
theorem OutL.refl (L:List Txt) (f n:Nat):OutL L L f n:=fun _ _=>rfl
theorem OutL.trans {L L1 L2:List Txt} {f n:Nat} (a:OutL L L1 f n) (b:OutL L1 L2 f n):OutL L L2 f n:=fun i hi=>(b i hi).trans (a i hi)
theorem OutL.set {L:List Txt} {f n j:Nat} (hj:j < n) (s:Txt):OutL L (L.set (f+j) s) f n:=fun i hi=>by
 rw [List.getElem?_set,if_neg ω]
theorem LF.of {c:Cfg} {a:Arr} {sq:Int} {L:List Txt} (W:Wh c a sq L) (hll:(L.length:Int)=c.st) (s0:0≤sq) {f n:Nat} (hfc:((f+n:Nat):Int)≤c.st) {P:List Txt} (hP:P.length=n) (h:∀ i,i < n→L[f+i]? = P[i]?):LF c a sq L f n P :=
 ⟨W.v,W.len,W.al,hll,hfc,hP,h,s0⟩
theorem Aea (z n:Nat):prts z [] n=List.replicate n []:=by
 unfold prts
 apply List.ext_getElem?
 intro i
 rw [List.getElem?_replicate]
 by_cases h:i < n
 ·rw [List.getElem?_map,List.getElem?_range h,if_pos h]
  simp [prtT]
 ·rw [if_neg h,List.getElem?_eq_none (by simp;omega)]
end Go.Proofs.YtmbndhciflilbaaGreatDoor.X
