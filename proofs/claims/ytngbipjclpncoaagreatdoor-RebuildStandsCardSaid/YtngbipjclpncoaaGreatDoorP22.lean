/-
  Steps of a scrub under a fuse (plain mathematics).
-/
import Derived.Test.YtngbipjclpncoaaGreatDoorP21
namespace Go.Proofs.YtngbipjclpncoaaGreatDoor.X
open F
set_option linter.unusedSimpArgs false
set_option linter.unusedVariables false
structure MS (c:Cfg) (a:Arr) (sq:Int) (L:List Txt) (bad:Nat→Prop) (hd:Prop) (n:Nat):Prop where
 ex:∃ g,Inv c 7 g bad none a∧g.sq=sq∧(∀ m:Nat,(m:Int) < c.st→L[m]? = some (g.tx m))∧∀ d:Nat,d < a.disks.length→(hd→AllV 7 a d 0 (hdB 7 d c))∧∀ m:Nat,m < n→(m:Int) < c.st→AllV 7 a d (stP c m) (stB 7 c m (g.ep m) (g.tx m) d)
 ll:(L.length:Int)=c.st
 al:∀ d:Nat,d < a.disks.length→a.alive (d:Int)=true
theorem VS.ms {c:Cfg} {a:Arr} {sq:Int} {L:List Txt} {bad:Nat→Prop} (V:VS c a sq L bad) (hal:∀ d:Nat,d < a.disks.length→a.alive (d:Int)=true):MS c a sq L bad False 0:=by
 obtain ⟨⟨g,I,e,hL⟩,hdn,hq,hll⟩:=V
 exact ⟨⟨g,I,e,hL,fun d _=>⟨fun h=>h.elim,fun m hm=>by omega⟩⟩,hll,hal⟩
theorem MS.vs {c:Cfg} {a:Arr} {sq:Int} {L:List Txt} {bad:Nat→Prop} {hd:Prop} {n:Nat} (M:MS c a sq L bad hd n) (hh:hd) (hn:c.st≤n) (hdn:a.down=false) (hq:Qt a) (bad':Nat→Prop):VS c a sq L bad':=by
 obtain ⟨⟨g,I,e,hL,hA⟩,hll,hal⟩:=M
 exact ⟨⟨g,I.good fun d hd _=> .inr ⟨(hA d hd).1 hh,fun m hm=>(hA d hd).2 m (by omega) hm⟩,e,hL⟩,hdn,hq,hll⟩
theorem MS.heads {c:Cfg} {a:Arr} {sq:Int} {L:List Txt} {bad:Nat→Prop} {hd:Prop} {n:Nat} (M:MS c a sq L bad hd n) (hdn:a.down=false) :
  Stp a (vheadsR a 7 c).1∧MS c (vheadsR a 7 c).1 sq L bad hd n∧(((vheadsR a 7 c).2.2=0∧(vheadsR a 7 c).1.down=false∧Qt (vheadsR a 7 c).1∧MS c (vheadsR a 7 c).1 sq L bad True n)∨((vheadsR a 7 c).2.2=9∧(vheadsR a 7 c).1.down=true∧¬a.left < 0)):=by
 obtain ⟨⟨g,I,e,hL,hA⟩,hll,hal⟩:=M
 obtain ⟨i1,i2,i3,i4⟩:=I.vheadsF hdn
 have hal':∀ d:Nat,d < (vheadsR a 7 c).1.disks.length→(vheadsR a 7 c).1.alive (d:Int)=true:=fun d hd=>by rw [i2.al];exact hal d (by rw [←i2.len];exact hd)
 have hA':∀ d:Nat,d < (vheadsR a 7 c).1.disks.length→(hd→AllV 7 (vheadsR a 7 c).1 d 0 (hdB 7 d c))∧∀ m:Nat,m < n→(m:Int) < c.st→AllV 7 (vheadsR a 7 c).1 d (stP c m) (stB 7 c m (g.ep m) (g.tx m) d):=fun d hd'=>by
  obtain ⟨k1,k2⟩:=hA d (by rw [←i2.len];exact hd')
  exact ⟨fun h=>i3 _ _ _ (fun _=>rfl) (k1 h),fun m hm hm2=>i3 _ _ _ (fun h=>by unfold stP at h;omega) (k2 m hm hm2)⟩
 refine ⟨i2,⟨⟨g,i1,e,hL,hA'⟩,hll,hal'⟩,i4.imp_left fun ⟨j1,j2,j3,j4⟩=>⟨j1,j2,j3,⟨⟨g,i1,e,hL,fun d hd'=>⟨fun _=>j4 d ?_,(hA' d hd').2⟩⟩,hll,hal'⟩⟩⟩
 have hd2:d < a.disks.length:=by rw [←i2.len];exact hd'
 exact alv_mem.2 ⟨d,rfl,hd2,hal d hd2⟩
theorem MS.mend {c:Cfg} {a:Arr} {sq:Int} {L:List Txt} {bad:Nat→Prop} {hd:Prop} {n:Nat} (M:MS c a sq L bad hd n) (hdn:a.down=false) (hn:(n:Int) < c.st) (G:Gd c a bad) (hs:sq+1 < 36028797018963968) :
  Stp a (vmendR a 7 c n).1∧MS c (vmendR a 7 c n).1 sq L bad hd n∧(((vmendR a 7 c n).2.2=0∧(vmendR a 7 c n).1.down=false∧Qt (vmendR a 7 c n).1∧MS c (vmendR a 7 c n).1 sq L bad hd (n+1))∨((vmendR a 7 c n).2.2=9∧(vmendR a 7 c n).1.down=true∧¬a.left < 0)):=by
 obtain ⟨⟨g,I,rfl,hL,hA⟩,hll,hal⟩:=M
 obtain ⟨i1,i2,i3,i4⟩:=I.vmendF hdn hn (G.of I hdn hn) hs
 have hal':∀ d:Nat,d < (vmendR a 7 c n).1.disks.length→(vmendR a 7 c n).1.alive (d:Int)=true:=fun d hd=>by rw [i2.al];exact hal d (by rw [←i2.len];exact hd)
 have hA':∀ d:Nat,d < (vmendR a 7 c n).1.disks.length→(hd→AllV 7 (vmendR a 7 c n).1 d 0 (hdB 7 d c))∧∀ m:Nat,m < n→(m:Int) < c.st→AllV 7 (vmendR a 7 c n).1 d (stP c m) (stB 7 c m (g.ep m) (g.tx m) d):=fun d hd'=>by
  obtain ⟨k1,k2⟩:=hA d (by rw [←i2.len];exact hd')
  exact ⟨fun h=>i3 _ _ _ (fun h=>by unfold stP at h;omega) (k1 h),fun m hm hm2=>i3 _ _ _ (fun h=>by unfold stP at h;omega) (k2 m hm hm2)⟩
 refine ⟨i2,⟨⟨g,i1,rfl,hL,hA'⟩,hll,hal'⟩,i4.imp_left fun ⟨j1,j2,j3,j4⟩=>⟨j1,j2,j3,⟨⟨g,i1,rfl,hL,fun d hd'=>⟨(hA' d hd').1,fun m hm hm2=> ?_⟩⟩,hll,hal'⟩⟩⟩
 by_cases hmn:m=n
 ·subst hmn
  have hd2:d < a.disks.length:=by rw [←i2.len];exact hd'
  exact j4 d (alv_mem.2 ⟨d,rfl,hd2,hal d hd2⟩)
 ·exact (hA' d hd').2 m (by omega) hm2
theorem MS.stepL {c:Cfg} {sq:Int} {L:List Txt} {bad:Nat→Prop} (hs:sq+1 < 36028797018963968):∀ (k n:Nat) {a:Arr} {hd:Prop} {r:RepD},MS c a sq L bad hd n→a.down=false→Qt a→Gd c a bad→r.nx=n→((n+k:Nat):Int)≤c.st →
  Stp a (stepL 7 c k a r).ar ∧
  (((stepL 7 c k a r).er=0∧(stepL 7 c k a r).ar.down=false∧Qt (stepL 7 c k a r).ar∧MS c (stepL 7 c k a r).ar sq L bad hd (n+k)∧(stepL 7 c k a r).rp.nx=((n+k:Nat):Int)∧(stepL 7 c k a r).rp.dn=decide (((n+k:Nat):Int)=c.st)∧(stepL 7 c k a r).rp.lo=r.lo) ∨
   ((stepL 7 c k a r).er=9∧(stepL 7 c k a r).ar.down=true∧¬a.left < 0∧MS c (stepL 7 c k a r).ar sq L bad hd n))
 | 0,n,a,hd,r,M,hdn,hq,G,hr,_=>⟨Stp.refl a,.inl ⟨rfl,hdn,hq,M,by simp [Go.Proofs.YtngbipjclpncoaaGreatDoor.X.stepL,hr],by simp [Go.Proofs.YtngbipjclpncoaaGreatDoor.X.stepL,hr],rfl⟩⟩
 | k+1,n,a,hd,r,M,hdn,hq,G,hr,hk=>by
  obtain ⟨S1,M1,w⟩:=M.mend hdn (show (n:Int) < c.st by omega) G hs
  have e2:n+1+k=n+(k+1):=by omega
  rw [Go.Proofs.YtngbipjclpncoaaGreatDoor.X.stepL,hr]
  rcases w with ⟨w1,w2,w3,w4⟩|⟨w1,w2,w3⟩
  ·rw [if_neg (show ¬addE (vmendR a 7 c n).2.2≠0 by rw [w1];decide)]
   obtain ⟨S2,i⟩:=MS.stepL hs k (n+1) (r:=⟨(n:Int)+1,(addR r (vmendR a 7 c n).2.1 (vmendR a 7 c n).2.2).me,(addR r (vmendR a 7 c n).2.1 (vmendR a 7 c n).2.2).lo,r.dn⟩) w4 w2 w3 (G.stp S1) (by push_cast;rfl) (by rw [e2];exact hk)
   refine ⟨S1.trans S2,?_⟩
   rw [e2] at i
   rcases i with ⟨i1,i2,i3,i4,i5,i6,i7⟩|⟨i1,i2,i3,i4⟩
   ·exact .inl ⟨i1,i2,i3,i4,i5,i6,by rw [i7];simp [addR,w1]⟩
   ·refine .inr ⟨i1,i2,fun h=>i3 (S1.neg h),?_⟩
    obtain ⟨⟨g,I,e,hL,hA⟩,hll,hal⟩:=i4
    exact ⟨⟨g,I,e,hL,fun d hd'=>⟨(hA d hd').1,fun m hm hm2=>(hA d hd').2 m (by omega) hm2⟩⟩,hll,hal⟩
  ·rw [if_pos (show addE (vmendR a 7 c n).2.2≠0 by rw [w1];decide)]
   exact ⟨S1,.inr ⟨by show addE _=9;rw [w1];rfl,w2,w3,M1⟩⟩
theorem MS.step {c:Cfg} {a:Arr} {sq:Int} {L:List Txt} {bad:Nat→Prop} {n:Nat} (hC:ConfP c) (M:MS c a sq L bad (0 < n) n) (hdn:a.down=false) (hq:Qt a) (G:Gd c a bad) (hs:sq+1 < 36028797018963968) (hn:(n:Int) < c.st) {many:Int} (hm:1≤many) :
  Stp a (stepR a 7 c n many).ar ∧
  (((stepR a 7 c n many).er=0∧(stepR a 7 c n many).ar.down=false∧Qt (stepR a 7 c n many).ar∧∃ n':Nat,(stepR a 7 c n many).rp.nx=n'∧(n':Int)=n+min many (c.st - n)∧(stepR a 7 c n many).rp.dn=decide ((n':Int)=c.st)∧(stepR a 7 c n many).rp.lo=0∧MS c (stepR a 7 c n many).ar sq L bad (0 < n') n') ∨
   ((stepR a 7 c n many).er=9∧(stepR a 7 c n many).ar.down=true∧¬a.left < 0∧MS c (stepR a 7 c n many).ar sq L bad (0 < n) n)):=by
 have hk:((n+(min many (c.st - n)).toNat:Nat):Int)=n+min many (c.st - n):=by omega
 have hk1:0 < n+(min many (c.st - n)).toNat:=by omega
 unfold stepR
 rw [if_neg (by omega)]
 by_cases h0:(n:Int)=0
 ·rw [if_pos h0]
  have hn0:n=0:=by omega
  subst hn0
  obtain ⟨S1,M1,w⟩:=M.heads hdn
  rcases w with ⟨w1,w2,w3,w4⟩|⟨w1,w2,w3⟩
  ·rw [if_neg (show ¬addE (vheadsR a 7 c).2.2≠0 by rw [w1];decide)]
   obtain ⟨S2,i⟩:=MS.stepL hs (min many (c.st - ((0:Nat):Int))).toNat 0 (r:=addR ⟨((0:Nat):Int),0,0,false⟩ (vheadsR a 7 c).2.1 (vheadsR a 7 c).2.2) w4 w2 w3 (G.stp S1) rfl (by omega)
   refine ⟨S1.trans S2,?_⟩
   rcases i with ⟨i1,i2,i3,i4,i5,i6,i7⟩|⟨i1,i2,i3,i4⟩
   ·refine .inl ⟨i1,i2,i3,_,i5,hk,i6,by rw [i7];simp [addR,w1],?_⟩
    obtain ⟨⟨g,I,e,hL,hA⟩,hll,hal⟩:=i4
    exact ⟨⟨g,I,e,hL,fun d hd'=>⟨fun _=>(hA d hd').1 trivial,(hA d hd').2⟩⟩,hll,hal⟩
   ·refine .inr ⟨i1,i2,fun h=>i3 (S1.neg h),?_⟩
    obtain ⟨⟨g,I,e,hL,hA⟩,hll,hal⟩:=i4
    exact ⟨⟨g,I,e,hL,fun d hd'=>⟨fun h=>by omega,(hA d hd').2⟩⟩,hll,hal⟩
  ·rw [if_pos (show addE (vheadsR a 7 c).2.2≠0 by rw [w1];decide)]
   exact ⟨S1,.inr ⟨by show addE _=9;rw [w1];rfl,w2,w3,M1⟩⟩
 ·rw [if_neg h0]
  obtain ⟨S2,i⟩:=MS.stepL hs (min many (c.st - n)).toNat n (r:=⟨(n:Int),0,0,false⟩) M hdn hq G rfl (by omega)
  refine ⟨S2,?_⟩
  rcases i with ⟨i1,i2,i3,i4,i5,i6,i7⟩|⟨i1,i2,i3,i4⟩
  ·refine .inl ⟨i1,i2,i3,_,i5,hk,i6,i7,?_⟩
   obtain ⟨⟨g,I,e,hL,hA⟩,hll,hal⟩:=i4
   exact ⟨⟨g,I,e,hL,fun d hd'=>⟨fun _=>(hA d hd').1 (by omega),(hA d hd').2⟩⟩,hll,hal⟩
  ·exact .inr ⟨i1,i2,i3,i4⟩
end Go.Proofs.YtngbipjclpncoaaGreatDoor.X
