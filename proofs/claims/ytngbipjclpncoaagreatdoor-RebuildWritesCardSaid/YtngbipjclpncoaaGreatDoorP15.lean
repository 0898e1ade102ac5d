/-
  Looking at all stripes: heads, steps (plain mathematics).
-/
import Derived.Test.YtngbipjclpncoaaGreatDoorP14
namespace Go.Proofs.YtngbipjclpncoaaGreatDoor.X
open F
set_option linter.unusedSimpArgs false
set_option linter.unusedVariables false
theorem isHd_of {c:Cfg} {a:Arr} (hdn:a.down=false) (hdk:∀ x∈a.disks,DskG c x) (hsz:0≤c.k * c.sh+42) {d:Nat} : (Lst 7 a d 0 (hdB 7 d c)→isHd a 7 d c)∧(UnA a d 0→¬isHd a 7 d c):=by
 refine ⟨fun ⟨x,h1,h2,h3,h4⟩=> ?_,fun h hh=> ?_⟩
 ·have e:=vget_alive (id:=7) hdn hdk hsz h1 h2 h3
  have h4:bownR (x.at_ (0:Nat)) 7 d (0:Nat)=(hdB 7 d c,0):=h4
  rw [h4] at e
  have e:vgetR a 7 d 0=(hdB 7 d c,true):=e
  unfold isHd
  rw [e]
  exact ⟨rfl,rfl⟩
 ·have:=h.get hdn hdk hsz
  have h1:=hh.1
  have this:(vgetR a 7 d 0).2=false:=this
  rw [this] at h1
  cases h1
theorem headsL_cnt {c:Cfg} {g:Gh} {bad:Nat→Prop} {Y:Nat→Bool} : ∀ (l:List Nat) {a:Arr} (m:Int),Inv c 7 g bad none a→a.down=false→a.left < 0→l.Nodup→(∀ d∈l,d < a.disks.length∧a.alive (d:Int)=true∧(Y d=false→Lst 7 a d 0 (hdB 7 d c))∧(Y d=true→UnA a d 0)) →
  (headsL 7 c a m (l.map fun d:Nat=>(d:Int))).2.1=m+(l.countP Y:Nat)∧∀ d p:Nat,p≠0→SA a (headsL 7 c a m (l.map fun d:Nat=>(d:Int))).1 d p
 | [],a,m,_,_,_,_,_=>⟨by simp [headsL],fun d p _=>SA.refl _ _ _⟩
 | e :: l,a,m,I,hdn,hlf,hnd,h=>by
  obtain ⟨hel,hal,h1,h2⟩:=h e (List.mem_cons_self ..)
  obtain ⟨q1,q2⟩:=isHd_of (c:=c) hdn I.dk I.sz (d:=e)
  have hnd':=List.nodup_cons.1 hnd
  rw [List.map_cons,headsL,List.countP_cons]
  cases hY:Y e with
  | false =>
   rw [if_pos (q1 (h1 hY))]
   obtain ⟨i1,i2⟩:=headsL_cnt l m I hdn hlf hnd'.2 fun d hd=>h d (List.mem_cons_of_mem _ hd)
   exact ⟨by rw [i1];simp,i2⟩
  | true =>
   rw [if_neg (q2 (h2 hY))]
   obtain ⟨I1,S1,w⟩:=I.put hdn (I.putH hel hal)
   rcases w with ⟨w1,w2,w3,w4⟩|⟨_,_,w3⟩
   rotate_left
   ·exact (w3 hlf).elim
   rw [if_pos w1]
   have sa:∀ d p:Nat,¬(e=d∧p=0)→SA a (vput a (hdB 7 e c)) d p:=fun d p hne=>SA.vput fun hbp=>hne (by
    have h1:(e:Int)=d:=hbp.1
    have h2:(0:Int)=p:=hbp.2
    omega)
   obtain ⟨i1,i2⟩:=headsL_cnt l (m+1) I1 w2 (S1.neg hlf) hnd'.2 fun d hd=>by
    obtain ⟨k1,k2,k3,k4⟩:=h d (List.mem_cons_of_mem _ hd)
    have hne:¬(e=d∧(0:Nat)=0):=fun hh=>hnd'.1 (hh.1 ▸ hd)
    exact ⟨by rw [S1.len];exact k1,by rw [S1.al];exact k2,fun hy=>(k3 hy).sa (sa d 0 hne),fun hy=>(k4 hy).sa (sa d 0 hne)⟩
   refine ⟨by rw [i1];simp;omega,fun d p hp=>(sa d p fun hh=>hp hh.2).trans (i2 d p hp)⟩
theorem aliveL_range {a:Arr} (hal:∀ d:Nat,d < a.disks.length→a.alive (d:Int)=true):aliveL a a.disks.length=(List.range a.disks.length).map fun d:Nat=>(d:Int):=by
 unfold aliveL
 rw [List.filter_eq_self.2 fun d hd=>hal d (List.mem_range.1 hd)]
theorem EX.heads {c:Cfg} {a:Arr} {sq:Int} {L:List Txt} {X:Nat→Nat→Bool} (E:EX c a sq L X):(vheadsR a 7 c).2=(((cntX X a.disks.length 0:Nat):Int),0)∧EX c (vheadsR a 7 c).1 sq L (clr X 0)∧(vheadsR a 7 c).1.disks.length=a.disks.length:=by
 obtain ⟨⟨g,I,rfl,hL,hX⟩,hdn,hq,hll,hal,hlf⟩:=E
 obtain ⟨m1,m2,m3,m4,m5,m6,m7⟩:=I.vheads hdn hlf
 have hc1:=conf_sl I.conf
 obtain ⟨n1,n2⟩:=headsL_cnt (Y:=fun d=>X d 0) (List.range a.disks.length) 0 I hdn hlf List.nodup_range fun d hd=>⟨List.mem_range.1 hd,hal d (List.mem_range.1 hd),(hX d (List.mem_range.1 hd)).1,(hX d (List.mem_range.1 hd)).2.1⟩
 rw [←aliveL_range hal] at n1 n2
 obtain ⟨i1,i2,i3,i4,i5,i6⟩:=headsL_ok (aliveL a a.disks.length) 0 I hdn hlf fun d hd=>hd
 have hpw:(headsL 7 c a 0 (aliveL a a.disks.length)).1.power=0:=by unfold Arr.power;simp [i4]
 have ev:vheadsR a 7 c=((headsL 7 c a 0 (aliveL a a.disks.length)).1.flush,(headsL 7 c a 0 (aliveL a a.disks.length)).2.1,0):=by
  unfold vheadsR
  rw [if_neg (by simp [hdn])]
  simp only
  rw [if_pos i3,if_pos hpw]
 have hlen:=m3.len
 have sa:∀ d p:Nat,p≠0→(p:Int) < 1+c.sl+c.st→SA a (vheadsR a 7 c).1 d p:=fun d p hp hp2=>by
  rw [ev]
  exact (n2 d p hp).trans (SA.flush i1.dk hp2)
 refine ⟨by rw [ev,n1];unfold cntX;simp,⟨⟨g,m2,rfl,hL,fun d hd=> ?_⟩,m4,m5,hll,fun d hd=>by rw [m3.al];exact hal d (by rw [←m3.len];exact hd),m3.neg hlf⟩,hlen⟩
 rw [hlen] at hd
 obtain ⟨k1,k2,k3⟩:=hX d hd
 have hmem:(d:Int)∈aliveL a a.disks.length:=alv_mem.2 ⟨d,rfl,hd,hal d hd⟩
 refine ⟨fun _=> ?_,fun hx=>(by unfold clr at hx;rw [if_pos rfl] at hx;cases hx),fun m hm=>⟨fun hx=> ?_,fun hx=> ?_⟩⟩
 ·obtain ⟨x,h1,h2,h3,h4⟩:=m6 d hmem
  exact ⟨x,h1,h2,h3,h4 _ (Dsk.vers_at h3)⟩
 ·have hne:stP c m≠0:=by unfold stP;omega
  unfold clr at hx;rw [if_neg hne] at hx
  exact ((k3 m hm).1 hx).sa (sa d _ hne (by unfold stP;push_cast;omega))
 ·have hne:stP c m≠0:=by unfold stP;omega
  unfold clr at hx;rw [if_neg hne] at hx
  exact ((k3 m hm).2 hx).sa (sa d _ hne (by unfold stP;push_cast;omega))
def okX (c:Cfg) (N:Nat) (X:Nat→Nat→Bool) (n:Nat):Prop:=c.k+cntX X N (stP c n)≤N
instance (c:Cfg) (N:Nat) (X:Nat→Nat→Bool) (n:Nat):Decidable (okX c N X n):=by unfold okX;exact inferInstance
def oneX (c:Cfg) (N:Nat) (X:Nat→Nat→Bool) (n:Nat):Nat→Nat→Bool:=if okX c N X n then clr X (stP c n) else X
def afX (c:Cfg) (N:Nat):Nat→Nat→(Nat→Nat→Bool)→(Nat→Nat→Bool)
 | 0,_,X=>X
 | k+1,n,X=>afX c N k (n+1) (oneX c N X n)
def meX (c:Cfg) (N:Nat):Nat→Nat→(Nat→Nat→Bool)→Nat
 | 0,_,_=>0
 | k+1,n,X=>(if okX c N X n then cntX X N (stP c n) else 0)+meX c N k (n+1) (oneX c N X n)
def loX (c:Cfg) (N:Nat):Nat→Nat→(Nat→Nat→Bool)→Nat
 | 0,_,_=>0
 | k+1,n,X=>(if okX c N X n then 0 else 1)+loX c N k (n+1) (oneX c N X n)
theorem EX.stepL {c:Cfg} {sq:Int} {L:List Txt} (hs:sq+1 < 36028797018963968):∀ (k n:Nat) {a:Arr} {X:Nat→Nat→Bool} {r:RepD},EX c a sq L X→r.nx=n→((n+k:Nat):Int)≤c.st →
  (stepL 7 c k a r).er=0∧EX c (stepL 7 c k a r).ar sq L (afX c a.disks.length k n X)∧(stepL 7 c k a r).ar.disks.length=a.disks.length ∧
  (stepL 7 c k a r).rp=⟨((n+k:Nat):Int),r.me+(meX c a.disks.length k n X:Nat),r.lo+(loX c a.disks.length k n X:Nat),decide (((n+k:Nat):Int)=c.st)⟩
 | 0,n,a,X,r,E,hr,_=>⟨rfl,E,rfl,by simp [Go.Proofs.YtngbipjclpncoaaGreatDoor.X.stepL,hr,meX,loX]⟩
 | k+1,n,a,X,r,E,hr,hk=>by
  have hn:(n:Int) < c.st:=by omega
  have hm:=E.mend hn hs
  rw [Go.Proofs.YtngbipjclpncoaaGreatDoor.X.stepL,hr]
  have e1:((n:Int)+1)=((n+1:Nat):Int):=by push_cast;rfl
  have e2:n+1+k=n+(k+1):=by omega
  by_cases hok:okX c a.disks.length X n
  ·have hok':c.k+cntX X a.disks.length (stP c n)≤a.disks.length:=hok
   rw [if_pos hok'] at hm
   obtain ⟨m1,m2,m3⟩:=hm
   have ho:oneX c a.disks.length X n=clr X (stP c n):=by unfold oneX;rw [if_pos hok]
   rw [m1]
   simp only [addE,addR]
   rw [if_neg (by simp)]
   obtain ⟨i1,i2,i3,i4⟩:=EX.stepL hs k (n+1) (r:=⟨(n:Int)+1,r.me+((cntX X a.disks.length (stP c n):Nat):Int),if (0:Int)=10 then r.lo+1 else r.lo,r.dn⟩) m2 e1 (by rw [e2];exact hk)
   refine ⟨i1,?_,by rw [i3,m3],?_⟩
   ·rw [m3] at i2
    rw [afX,ho]
    exact i2
   ·rw [i4,m3,e2,meX,loX,ho,if_pos hok,if_pos hok]
    simp
    omega
  ·have hok':¬c.k+cntX X a.disks.length (stP c n)≤a.disks.length:=hok
   rw [if_neg hok'] at hm
   have ho:oneX c a.disks.length X n=X:=by unfold oneX;rw [if_neg hok]
   rw [hm]
   simp only [addE,addR]
   rw [if_neg (by simp)]
   obtain ⟨i1,i2,i3,i4⟩:=EX.stepL hs k (n+1) (r:=⟨(n:Int)+1,r.me+0,if True then r.lo+1 else r.lo,r.dn⟩) E e1 (by rw [e2];exact hk)
   refine ⟨i1,?_,i3,?_⟩
   ·rw [afX,ho]
    exact i2
   ·rw [i4,e2,meX,loX,ho,if_neg hok,if_neg hok]
    simp
    omega
end Go.Proofs.YtngbipjclpncoaaGreatDoor.X
