/-
  Steps of a scrub under a fuse (plain mathematics).
-/
import Derived.Test.YtpabfpccpbakfaaGreatDoorP21
namespace Go.Proofs.YtpabfpccpbakfaaGreatDoor.X
open F
set_option linter.unusedSimpArgs false
set_option linter.unusedVariables false
structure MS (c:Cfg) (a:Arr) (sq:Int) (L:List Txt) (bad:Nat→Prop) (hd:Prop) (n:Nat):Prop where
 ex:∃ g,Inv c 7 g bad none a∧g.sq=sq∧(∀ m:Nat,(m:Int) < c.st→L[m]? = some (g.tx m))∧∀ d:Nat,d < a.disks.length→(hd→AllV 7 a d 0 (hdB 7 d c))∧∀ m:Nat,m < n→(m:Int) < c.st→AllV 7 a d (stP c m) (stB 7 c m (g.ep m) (g.tx m) d)
 ll:(L.length:Int)=c.st
 al:∀ d:Nat,d < a.disks.length→a.alive (d:Int)=true
theorem MS.vs {c:Cfg} {a:Arr} {sq:Int} {L:List Txt} {bad:Nat→Prop} {hd:Prop} {n:Nat} (M:MS c a sq L bad hd n) (hh:hd) (hn:c.st≤n) (hdn:a.down=false) (hq:Qt a) (bad':Nat→Prop):VS c a sq L bad':=by
 obtain ⟨⟨g,I,e,hL,hA⟩,hll,hal⟩:=M
 exact ⟨⟨g,I.good fun d hd _=> .inr ⟨(hA d hd).1 hh,fun m hm=>(hA d hd).2 m (by omega) hm⟩,e,hL⟩,hdn,hq,hll⟩
theorem MS.heads {c:Cfg} {a:Arr} {sq:Int} {L:List Txt} {bad:Nat→Prop} {hd:Prop} {n:Nat} (M:MS c a sq L bad hd n) (hdn:a.down=false) :
  Stp a (B7 a 7 c).1∧MS c (B7 a 7 c).1 sq L bad hd n∧(((B7 a 7 c).2.2=0∧(B7 a 7 c).1.down=false∧Qt (B7 a 7 c).1∧MS c (B7 a 7 c).1 sq L bad True n)∨((B7 a 7 c).2.2=9∧(B7 a 7 c).1.down=true∧¬a.left < 0)):=by
 obtain ⟨⟨g,I,e,hL,hA⟩,hll,hal⟩:=M
 obtain ⟨i1,i2,i3,i4⟩:=I.Ajh hdn
 have hal':∀ d:Nat,d < (B7 a 7 c).1.disks.length→(B7 a 7 c).1.alive (d:Int)=true:=fun d hd=>by rw [i2.al];exact hal d (by rw [←i2.len];exact hd)
 have hA':∀ d:Nat,d < (B7 a 7 c).1.disks.length→(hd→AllV 7 (B7 a 7 c).1 d 0 (hdB 7 d c))∧∀ m:Nat,m < n→(m:Int) < c.st→AllV 7 (B7 a 7 c).1 d (stP c m) (stB 7 c m (g.ep m) (g.tx m) d):=fun d hd'=>by
  obtain ⟨k1,k2⟩:=hA d (by rw [←i2.len];exact hd')
  exact ⟨fun h=>i3 _ _ _ (fun _=>rfl) (k1 h),fun m hm hm2=>i3 _ _ _ (fun h=>by unfold stP at h;omega) (k2 m hm hm2)⟩
 refine ⟨i2,⟨⟨g,i1,e,hL,hA'⟩,hll,hal'⟩,i4.imp_left fun ⟨j1,j2,j3,j4⟩=>⟨j1,j2,j3,⟨⟨g,i1,e,hL,fun d hd'=>⟨fun _=>j4 d ?_,(hA' d hd').2⟩⟩,hll,hal'⟩⟩⟩
 have hd2:d < a.disks.length:=by rw [←i2.len];exact hd'
 exact Cy.2 ⟨d,rfl,hd2,hal d hd2⟩
theorem MS.mend {c:Cfg} {a:Arr} {sq:Int} {L:List Txt} {bad:Nat→Prop} {hd:Prop} {n:Nat} (M:MS c a sq L bad hd n) (hdn:a.down=false) (hn:(n:Int) < c.st) (G:Gd c a bad) (hs:sq+1 < 36028797018963968) :
  Stp a (Bm a 7 c n).1∧MS c (Bm a 7 c n).1 sq L bad hd n∧(((Bm a 7 c n).2.2=0∧(Bm a 7 c n).1.down=false∧Qt (Bm a 7 c n).1∧MS c (Bm a 7 c n).1 sq L bad hd (n+1))∨((Bm a 7 c n).2.2=9∧(Bm a 7 c n).1.down=true∧¬a.left < 0)):=by
 obtain ⟨⟨g,I,rfl,hL,hA⟩,hll,hal⟩:=M
 obtain ⟨i1,i2,i3,i4⟩:=I.vmendF hdn hn (G.of I hdn hn) hs
 have hal':∀ d:Nat,d < (Bm a 7 c n).1.disks.length→(Bm a 7 c n).1.alive (d:Int)=true:=fun d hd=>by rw [i2.al];exact hal d (by rw [←i2.len];exact hd)
 have hA':∀ d:Nat,d < (Bm a 7 c n).1.disks.length→(hd→AllV 7 (Bm a 7 c n).1 d 0 (hdB 7 d c))∧∀ m:Nat,m < n→(m:Int) < c.st→AllV 7 (Bm a 7 c n).1 d (stP c m) (stB 7 c m (g.ep m) (g.tx m) d):=fun d hd'=>by
  obtain ⟨k1,k2⟩:=hA d (by rw [←i2.len];exact hd')
  exact ⟨fun h=>i3 _ _ _ (fun h=>by unfold stP at h;omega) (k1 h),fun m hm hm2=>i3 _ _ _ (fun h=>by unfold stP at h;omega) (k2 m hm hm2)⟩
 refine ⟨i2,⟨⟨g,i1,rfl,hL,hA'⟩,hll,hal'⟩,i4.imp_left fun ⟨j1,j2,j3,j4⟩=>⟨j1,j2,j3,⟨⟨g,i1,rfl,hL,fun d hd'=>⟨(hA' d hd').1,fun m hm hm2=> ?_⟩⟩,hll,hal'⟩⟩⟩
 by_cases hmn:m=n
 ·subst hmn
  have hd2:d < a.disks.length:=by rw [←i2.len];exact hd'
  exact j4 d (Cy.2 ⟨d,rfl,hd2,hal d hd2⟩)
 ·exact (hA' d hd').2 m (by omega) hm2
theorem MS.Dq {c:Cfg} {sq:Int} {L:List Txt} {bad:Nat→Prop} (hs:sq+1 < 36028797018963968):∀ (k n:Nat) {a:Arr} {hd:Prop} {r:RepD},MS c a sq L bad hd n→a.down=false→Qt a→Gd c a bad→r.nx=n→((n+k:Nat):Int)≤c.st →
  Stp a (Dq 7 c k a r).ar ∧
  (((Dq 7 c k a r).er=0∧(Dq 7 c k a r).ar.down=false∧Qt (Dq 7 c k a r).ar∧MS c (Dq 7 c k a r).ar sq L bad hd (n+k)∧(Dq 7 c k a r).rp.nx=((n+k:Nat):Int)∧(Dq 7 c k a r).rp.dn=decide (((n+k:Nat):Int)=c.st)∧(Dq 7 c k a r).rp.lo=r.lo) ∨
   ((Dq 7 c k a r).er=9∧(Dq 7 c k a r).ar.down=true∧¬a.left < 0∧MS c (Dq 7 c k a r).ar sq L bad hd n))
 | 0,n,a,hd,r,M,hdn,hq,G,hr,_=>⟨Stp.refl a,.inl ⟨rfl,hdn,hq,M,by simp [Go.Proofs.YtpabfpccpbakfaaGreatDoor.X.Dq,hr],by simp [Go.Proofs.YtpabfpccpbakfaaGreatDoor.X.Dq,hr],rfl⟩⟩
 | k+1,n,a,hd,r,M,hdn,hq,G,hr,hk=>by
  obtain ⟨S1,M1,w⟩:=M.mend hdn (show (n:Int) < c.st by omega) G hs
  have e2:n+1+k=n+(k+1):=by omega
  rw [Go.Proofs.YtpabfpccpbakfaaGreatDoor.X.Dq,hr]
  rcases w with ⟨w1,w2,w3,w4⟩|⟨w1,w2,w3⟩
  ·rw [if_neg (show ¬addE (Bm a 7 c n).2.2≠0 by rw [w1];decide)]
   obtain ⟨S2,i⟩:=MS.Dq hs k (n+1) (r:=⟨(n:Int)+1,(addR r (Bm a 7 c n).2.1 (Bm a 7 c n).2.2).me,(addR r (Bm a 7 c n).2.1 (Bm a 7 c n).2.2).lo,r.dn⟩) w4 w2 w3 (G.stp S1) (by push_cast;rfl) (by rw [e2];exact hk)
   refine ⟨S1.trans S2,?_⟩
   rw [e2] at i
   rcases i with ⟨i1,i2,i3,i4,i5,i6,i7⟩|⟨i1,i2,i3,i4⟩
   ·exact .inl ⟨i1,i2,i3,i4,i5,i6,by rw [i7];simp [addR,w1]⟩
   ·refine .inr ⟨i1,i2,fun h=>i3 (S1.neg h),?_⟩
    obtain ⟨⟨g,I,e,hL,hA⟩,hll,hal⟩:=i4
    exact ⟨⟨g,I,e,hL,fun d hd'=>⟨(hA d hd').1,fun m hm hm2=>(hA d hd').2 m (by omega) hm2⟩⟩,hll,hal⟩
  ·rw [if_pos (show addE (Bm a 7 c n).2.2≠0 by rw [w1];decide)]
   exact ⟨S1,.inr ⟨by show addE _=9;rw [w1];rfl,w2,w3,M1⟩⟩
theorem MS.step {c:Cfg} {a:Arr} {sq:Int} {L:List Txt} {bad:Nat→Prop} {n:Nat} (hC:As c) (M:MS c a sq L bad (0 < n) n) (hdn:a.down=false) (hq:Qt a) (G:Gd c a bad) (hs:sq+1 < 36028797018963968) (hn:(n:Int) < c.st) {many:Int} (hm:1≤many) :
  Stp a (Bj a 7 c n many).ar ∧
  (((Bj a 7 c n many).er=0∧(Bj a 7 c n many).ar.down=false∧Qt (Bj a 7 c n many).ar∧∃ n':Nat,(Bj a 7 c n many).rp.nx=n'∧(n':Int)=n+min many (c.st - n)∧(Bj a 7 c n many).rp.dn=decide ((n':Int)=c.st)∧(Bj a 7 c n many).rp.lo=0∧MS c (Bj a 7 c n many).ar sq L bad (0 < n') n') ∨
   ((Bj a 7 c n many).er=9∧(Bj a 7 c n many).ar.down=true∧¬a.left < 0∧MS c (Bj a 7 c n many).ar sq L bad (0 < n) n)):=by
 have hk:((n+(min many (c.st - n)).toNat:Nat):Int)=n+min many (c.st - n):=by omega
 have hk1:0 < n+(min many (c.st - n)).toNat:=by omega
 unfold Bj
 rw [if_neg (by omega)]
 by_cases h0:(n:Int)=0
 ·rw [if_pos h0]
  have hn0:n=0:=by omega
  subst hn0
  obtain ⟨S1,M1,w⟩:=M.heads hdn
  rcases w with ⟨w1,w2,w3,w4⟩|⟨w1,w2,w3⟩
  ·rw [if_neg (show ¬addE (B7 a 7 c).2.2≠0 by rw [w1];decide)]
   obtain ⟨S2,i⟩:=MS.Dq hs (min many (c.st - ((0:Nat):Int))).toNat 0 (r:=addR ⟨((0:Nat):Int),0,0,false⟩ (B7 a 7 c).2.1 (B7 a 7 c).2.2) w4 w2 w3 (G.stp S1) rfl (by omega)
   refine ⟨S1.trans S2,?_⟩
   rcases i with ⟨i1,i2,i3,i4,i5,i6,i7⟩|⟨i1,i2,i3,i4⟩
   ·refine .inl ⟨i1,i2,i3,_,i5,hk,i6,by rw [i7];simp [addR,w1],?_⟩
    obtain ⟨⟨g,I,e,hL,hA⟩,hll,hal⟩:=i4
    exact ⟨⟨g,I,e,hL,fun d hd'=>⟨fun _=>(hA d hd').1 trivial,(hA d hd').2⟩⟩,hll,hal⟩
   ·refine .inr ⟨i1,i2,fun h=>i3 (S1.neg h),?_⟩
    obtain ⟨⟨g,I,e,hL,hA⟩,hll,hal⟩:=i4
    exact ⟨⟨g,I,e,hL,fun d hd'=>⟨fun h=>by omega,(hA d hd').2⟩⟩,hll,hal⟩
  ·rw [if_pos (show addE (B7 a 7 c).2.2≠0 by rw [w1];decide)]
   exact ⟨S1,.inr ⟨by show addE _=9;rw [w1];rfl,w2,w3,M1⟩⟩
 ·rw [if_neg h0]
  obtain ⟨S2,i⟩:=MS.Dq hs (min many (c.st - n)).toNat n (r:=⟨(n:Int),0,0,false⟩) M hdn hq G rfl (by omega)
  refine ⟨S2,?_⟩
  rcases i with ⟨i1,i2,i3,i4,i5,i6,i7⟩|⟨i1,i2,i3,i4⟩
  ·refine .inl ⟨i1,i2,i3,_,i5,hk,i6,i7,?_⟩
   obtain ⟨⟨g,I,e,hL,hA⟩,hll,hal⟩:=i4
   exact ⟨⟨g,I,e,hL,fun d hd'=>⟨fun _=>(hA d hd').1 (by omega),(hA d hd').2⟩⟩,hll,hal⟩
  ·exact .inr ⟨i1,i2,i3,i4⟩
theorem Gd.mk' {c:Cfg} {a b:Arr} {bad:Nat→Prop} (h:Gd c a bad) (hl:b.disks.length=a.disks.length) (hal:∀ d:Nat,b.alive (d:Int)=a.alive (d:Int)):Gd c b bad:=by
 obtain ⟨q,h1,h2⟩:=h
 exact ⟨q,fun d hd hq=>by rw [hl] at hd;rw [hal];exact h1 d hd hq,by rw [hl];exact h2⟩
theorem MS.A27 {c:Cfg} {a:Arr} {sq:Int} {L:List Txt} {bad:Nat→Prop} {hd:Prop} {n:Nat} (M:MS c a sq L bad hd n) (keep:List Bool) (G:Gd c a bad) (hs:sq+1 < 36028797018963968) :
  (Bv (a.Bb keep) 7).er=0∧(Bv (a.Bb keep) 7).vo=some (c,sq)∧(Bv (a.Bb keep) 7).ar.down=false∧Qt (Bv (a.Bb keep) 7).ar∧(Bv (a.Bb keep) 7).ar.left < 0∧MS c (Bv (a.Bb keep) 7).ar sq L bad hd n ∧
  (Bv (a.Bb keep) 7).ar.disks.length=a.disks.length∧Gd c (Bv (a.Bb keep) 7).ar bad∧Nw (a.Bb keep) 7=some c:=by
 obtain ⟨⟨g,I,rfl,hL,hA⟩,hll,hal⟩:=M
 obtain ⟨q1,q2,q3,q4,q5⟩:=A77 I.dk keep
 have I1:=I.Bb keep
 have hA1:∀ {d p:Nat} {b0:BlkD},AllV 7 a d p b0→AllV 7 (a.Bb keep) d p b0:=fun h=>h.Bb I.dk keep
 have G1:=Gd.mk' G q4 q5
 have hg:=G1.one (by have:=Bk I.conf;omega)
 generalize a.Bb keep=a1 at *
 obtain ⟨S,w⟩:=I1.Aey q2 q1 hg hs
 rcases w with ⟨w1,w2,w3,⟨w4,w5⟩|⟨P,h,_⟩⟩|⟨_,_,_,w,_⟩
 rotate_left
 ·cases h
 ·exact (w (by rw [q3];decide)).elim
 have hA2:∀ {d p:Nat} {b0:BlkD},(∀ n:Nat,(n:Int) < c.st→p=stP c n→b0=stB 7 c n (g.ep n) (g.tx n) d)→AllV 7 a1 d p b0→AllV 7 (Bv a1 7).ar d p b0:=fun hb h=>h.Aey I1 q2 hg hs hb
 refine ⟨w1,w4,w2,w3,S.neg (by rw [q3];decide),⟨⟨g,w5,rfl,hL,fun d hd'=> ?_⟩,hll,fun d hd'=> ?_⟩,by rw [S.len,q4],G1.stp S,I1.head q2 hg⟩
 ·obtain ⟨k1,k2⟩:=hA d (by rw [←q4,←S.len];exact hd')
  refine ⟨fun h=>hA2 (fun n _ h=>by unfold stP at h;omega) (hA1 (k1 h)),fun m hm hm2=>hA2 (fun n _ h=> ?_) (hA1 (k2 m hm hm2))⟩
  have:m=n:=by unfold stP at h;omega
  rw [this]
 ·rw [S.al,q5]
  exact hal d (by rw [←q4,←S.len];exact hd')
end Go.Proofs.YtpabfpccpbakfaaGreatDoor.X
