/-
  RebuildStands; ref18.Left.
-/
import Derived.Test.YtngbipjclpncoaaGreatDoorV84
namespace Go.Proofs.YtngbipjclpncoaaGreatDoor.X
open Go.RowKit F
set_option maxRecDepth 100000
set_option linter.unusedSimpArgs false
set_option linter.unusedVariables false
theorem VS.lbd {c:Cfg} {a:Arr} {sq:Int} {L:List Txt} (V:VS c a sq L (fun _=>False)) (hl:a.disks.length≤255) (hst:1≤c.st) : -4611686018427387904 < (leastR a 7 c).1∧(leastR a 7 c).1 < 4611686018427387904:=by
 have h:=V.least hl c.st.toNat (by omega)
 rw [if_neg (by omega)] at h
 have h3:=aliveL_cnt a a.disks.length
 have h4:=List.countP_le_length (p:=fun d:Nat=>a.alive (d:Int)) (l:=List.range a.disks.length)
 rw [List.length_range] at h4
 unfold leastR
 rw [h]
 split
 ·simp;omega
 ·simp
structure StdI (p q nb:Nat) (cells:List AV) (ps:List Nat) (pv:Nat) (c:Cfg) (D:Nat) (sq:Int) (L:List Txt) (i:Nat) (r:Regs) (hp:Heap):Prop where
 le:i≤(c.m+1).toNat
 r2:rg r 2 = .ptr 0 0
 r5:rg r 5 = .ptr p 0
 r6:rg r 6 = .ptr pv 0
 r7:rg r 7 = .int .i64 i
 gc:hp.get 0=some [.int .i64 c.k,.int .i64 c.m,.int .i64 c.sh,.int .i64 c.st,.int .i64 c.sl]
 ex:∃ a,LawV p q nb cells ps pv c 0 a sq (fun x=>x=0) hp∧FL c a sq L i∧a.disks.length=D
theorem rebuildStands_pure (c:Cfg) (ts:List Txt) (_:CfW c) (_:ts.length < 2 ^ 48) (_:∀ x∈ts,x.length < 2 ^ 63) :
  CPure Tryz.prog 7 [CfA c,SL ts] (.bool true):=by
 refine CPure.of_sem (k:=1) ?_
 refine CSem.body hm Tryz.func7 rfl (by kernel_rfl) (by kernel_rfl) (by simp [Tryz.ntmps7]) ?_
 have haggC:aggT Tryz.prog 23=some true:=by kernel_rfl
 have hzC:szT Tryz.prog 23=some 5:=by kernel_rfl
 have hcC:(CfA c).cells=[.int .i64 c.k,.int .i64 c.m,.int .i64 c.sh,.int .i64 c.st,.int .i64 c.sl]:=rfl
 have hout:∀ (h:Heap) (K:AV→Heap→Prop),K (.bool true) h→Call Tryz.prog 24 [] h K:=out18
 refine wpc_st (fun r h=>rg r 1=SL ts∧rg r 2 = .ptr 0 0∧h=Heap.empty.alloc [.int .i64 c.k,.int .i64 c.m,.int .i64 c.sh,.int .i64 c.st,.int .i64 c.sl]) ?_ (by simp [hcC])
 rintro r _ ⟨r1,r2,rfl⟩
 have g1:(Heap.empty.alloc [.int .i64 c.k,.int .i64 c.m,.int .i64 c.sh,.int .i64 c.st,.int .i64 c.sl]).get 0=some [.int .i64 c.k,.int .i64 c.m,.int .i64 c.sh,.int .i64 c.st,.int .i64 c.sl]:=Heap.get_alloc_same Heap.empty _
 have lp1:(Heap.empty.alloc [.int .i64 c.k,.int .i64 c.m,.int .i64 c.sh,.int .i64 c.st,.int .i64 c.sl]).lp=none:=rfl
 generalize (Heap.empty.alloc [.int .i64 c.k,.int .i64 c.m,.int .i64 c.sh,.int .i64 c.st,.int .i64 c.sl])=H1 at g1 lp1 ⊢
 have hbl:=Heap.get_lt g1
 simp [r2,g1,loadX_agg haggC,hzC,takeN]
 refine (rtiny_call c _).use ?_
 by_cases hT:SmL c
 rotate_left
 ·simp [hT]
  refine hout _ _ ?_
  simp
 by_cases hw6:(6:Int) < ts.length
 ·simp [hT,r1,hw6]
  refine hout _ _ ?_
  simp
 simp [hT,r1,r2,hw6,g1,loadX_agg haggC,hzC,takeN]
 obtain ⟨hC,t1,t2,t3,t4⟩:=hT
 have h0:=conf_sl hC
 have hst:1≤c.st:=hC.2.2.2.1.1
 refine (made18_sem hC ⟨t1,t3⟩ (ts:=ts) (tv:=SL ts) (by omega) _ (.inl rfl) lp1).then ?_
 rintro _ H2 ⟨p,q,nb,cells,ps,pv,rfl,LH,F2⟩
 have LH:=LH.less (E':=fun x=>x=0) fun x hx=>by rw [hx];exact hbl
 have g2:=(F2 0 hbl).trans g1
 obtain ⟨W,s0,s1⟩:=made_ok hC ts ts.length (by omega)
 generalize madeL c ts ts.length=aq at LH W s0 s1
 generalize madeM c ts ts.length=Lm at W
 obtain ⟨a0,sq⟩:=aq
 simp only at LH W s0 s1
 have hD:(a0.disks.length:Int)=c.k+c.m:=LH.len
 simp
 refine wpc_loop (StdI p q nb cells ps pv c a0.disks.length sq Lm) ((c.m+1).toNat - ·) ?_ 0 ?_
 rotate_left
 ·exact ⟨by omega,by simpa using r2,by simp,by simp,by simp,g2,a0,LH,W.fl,rfl⟩
 clear LH g2 F2 g1 lp1 r1 r2 hbl
 rintro i r hp ⟨le,r2,r5,r6,r7,gc,a,LH,FF,hDa⟩
 have hsd:=FF.stands t1 hst (by omega)
 have hbd:=FF.v.lbd (by omega) hst
 rcases Nat.lt_or_eq_of_le le with hlt|heq
 ·have hlt':(i:Int)≤c.m:=by omega
  have hw1:IntKind.i64.wrap ((i:Int)+1)=(i:Int)+1:=wrap64 (by omega) (by omega)
  have hw2:IntKind.i64.wrap (c.m - (i:Int))=c.m - i:=wrap64 (by omega) (by omega)
  rw [if_pos hlt'] at hsd
  simp [r2,r6,r7,fieldAddrX,gc,hlt']
  refine (LH.stands hC (by decide) hbd).use ?_
  rw [hsd]
  simp [r2,r5,r7,fieldAddrX,gc,hw2]
  refine (LH.fail i).then ?_
  rintro _ h2 ⟨rfl,L2,F2⟩
  have hdl:=(FF.v.fail i).2.2
  simp [r7,hw1]
  exact ⟨i+1,by omega,by omega,by simpa using r2,by simpa using r5,by simpa using r6,by simp,(F2 0 rfl).trans gc,_,L2,FF.fail (by omega),by omega⟩
 ·have hge:¬((i:Int)≤c.m):=by omega
  rw [if_neg hge] at hsd
  simp [r2,r7,fieldAddrX,gc,hge,r6]
  refine (LH.stands hC (by decide) hbd).use ?_
  rw [hsd]
  simp
  refine hout _ _ ?_
  simp
def lefS (s x:Int):Int:=if 1≤x then max (s - min x s) 0 else s
def leftL (s:Int) (l:List Int):Int:=l.foldl lefS s
theorem leftL_step {s:Int} {l:List Int} {i:Nat} (hi:i < l.length):leftL s (l.take (i+1))=lefS (leftL s (l.take i)) l[i]:=by
 unfold leftL
 rw [List.take_succ_eq_append_getElem hi,List.foldl_append]
 rfl
theorem lefS_bd {s x:Int} (h0:0≤s):0≤lefS s x∧lefS s x≤s:=by
 unfold lefS
 split<;>omega
theorem leftL_bd {s:Int} (h0:0≤s):∀ l:List Int,0≤leftL s l∧leftL s l≤s:=by
 intro l
 induction l generalizing s with
 | nil=>exact ⟨h0,Int.le_refl _⟩
 | cons x l ih =>
  obtain ⟨h1,h2⟩:=lefS_bd (x:=x) h0
  obtain ⟨i1,i2⟩:=ih h1
  exact ⟨i1,by show leftL (lefS s x) l≤s;omega⟩
theorem RB.rst {c:Cfg} {a:Arr} {sq:Int} {L:List Txt} {d n:Nat} (R:RB c a sq L d n) (hC:ConfP c) (hs:sq+1 < 36028797018963968) (many:Int) :
  ∃ n':Nat,rstN (stepR a 7 c n many) n=n'∧rstE (stepR a 7 c n many)=(if 1≤many then 0 else 1)∧rstD (stepR a 7 c n many)=(decide (1≤many) && decide ((n':Int)=c.st))∧c.st - (n':Int)=lefS (c.st - n) many∧RB c (stepR a 7 c n many).ar sq L d n':=by
 by_cases hm:1≤many
 ·obtain ⟨e1,e2,n',e3,e4,e5,R'⟩:=R.step hC hs hm
  have hle:=R.le
  refine ⟨n',?_,?_,?_,?_,R'⟩
  ·unfold rstN;rw [if_pos e1,e3]
  ·unfold rstE;rw [if_pos e1,if_neg (by omega),if_pos hm]
  ·unfold rstD;rw [e1,e2,e5];simp [hm]
  ·unfold lefS;rw [if_pos hm];omega
 ·have e:stepR a 7 c n many=⟨a,rep0,1⟩:=by unfold stepR;rw [if_pos (by omega)]
  rw [e]
  refine ⟨n,?_,?_,?_,?_,R⟩
  ·unfold rstN;rw [if_neg (show ¬(1:Int)=0 by decide)]
  ·unfold rstE;rw [if_neg (show ¬(1:Int)=0 by decide),if_neg hm]
  ·unfold rstD;simp [hm]
  ·unfold lefS;rw [if_neg hm]
structure LfI (s:Int) (l:List Int) (i:Nat) (r:Regs) (hp:Heap):Prop where
 le:i≤l.length
 r0:rg r 0 = .int .i64 (leftL s (l.take i))
 r1:rg r 1=IL l
 r5:rg r 5 = .int .i64 i
 h:hp=Heap.empty
theorem rleft_pure {s:Int} {l:List Int} (h0:0≤s) (h1:s < 4611686018427387904) (hl:l.length < 2 ^ 40):CPure Tryz.prog 29 [.int .i64 s,IL l] (.int .i64 (leftL s l)):=by
 refine CPure.of_sem (k:=2) ?_
 refine CSem.body hm Tryz.func29 rfl (by kernel_rfl) (by kernel_rfl) (by simp [Tryz.ntmps29]) ?_
 simp [Tryz.f29]
 refine wpc_loop (LfI s l) (l.length - ·) ?_ 0 ?_
 rotate_left
 ·exact ⟨by omega,by simp [leftL],by simp,by simp,rfl⟩
 rintro i r hp ⟨le,r0,r1,r5,rfl⟩
 rcases Nat.lt_or_eq_of_le le with hlt|heq
 ·have hlt':(i:Int) < l.length:=by omega
  have hw1:IntKind.i64.wrap ((i:Int)+1)=(i:Int)+1:=wrap64 (by omega) (by omega)
  obtain ⟨b0,b1⟩:=leftL_bd h0 (l.take i)
  have hst:=leftL_step (s:=s) hlt
  generalize leftL s (l.take i)=y at r0 b0 b1 hst
  by_cases hx:(1:Int)≤l[i]
  ·have hmn:(if y < l[i] then y else l[i])=min l[i] y:=by split<;>omega
   have hw2:IntKind.i64.wrap (y - min l[i] y)=y - min l[i] y:=wrap64 (by omega) (by omega)
   have hmx:(if (0:Int) < y - min l[i] y then y - min l[i] y else 0)=max (y - min l[i] y) 0:=by split<;>omega
   have hmx2:(if y - min l[i] y < (0:Int) then 0 else y - min l[i] y)=max (y - min l[i] y) 0:=by split<;>omega
   have e:lefS y l[i]=max (y - min l[i] y) 0:=by unfold lefS;rw [if_pos hx]
   simp [r0,r1,r5,hlt,hlt',hx,hw1,min2X,max2X,hmn,hw2,hmx,hmx2,I64]
   exact ⟨i+1,by omega,by omega,by simp [hst,e],by simpa using r1,by simp,rfl⟩
  ·have e:lefS y l[i]=y:=by unfold lefS;rw [if_neg hx]
   simp [r0,r1,r5,hlt,hlt',hx,hw1,I64]
   exact ⟨i+1,by omega,by omega,by simp [hst,e,r0],by simpa using r1,by simp,rfl⟩
 ·subst heq
  rw [List.take_length] at r0
  simp [r0,r1,r5]
end Go.Proofs.YtngbipjclpncoaaGreatDoor.X
