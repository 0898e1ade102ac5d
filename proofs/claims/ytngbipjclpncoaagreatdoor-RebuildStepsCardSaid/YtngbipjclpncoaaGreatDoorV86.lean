/-
  RebuildSteps.
-/
import Derived.Test.YtngbipjclpncoaaGreatDoorV85
namespace Go.Proofs.YtngbipjclpncoaaGreatDoor.X
open Go.RowKit F
set_option maxRecDepth 100000
set_option linter.unusedSimpArgs false
set_option linter.unusedVariables false
def alSV (c:Cfg) (u1:List Txt) (u2:Int) (u3:List Int) (q:Nat):Nat→AV→Prop
 | 0,v=>v = .ptr 0 0
 | 1,v=>v=CfA c
 | 2,v=>v = .ptr 0 5
 | 3,v=>v=(SL u1)
 | 4,v=>v = .ptr 0 6
 | 5,v=>v=(.int .i64 u2)
 | 6,v=>v = .ptr 0 7
 | 7,v=>v=(IL u3)
 | 8,v=>v = .ptr q 0
 | 10,v=>v=(SL u1)
 | 11,v=>v=(.int .i64 u2)
 | 12,v=>v=(IL u3)
 | _,v=>True
theorem alS {cd:Code} (hc:(Tryz.f8.body).bind (findR 1)=some cd) {r:Regs} {H:Heap} {Q:Out→Regs→Heap→Prop} {c:Cfg} {u1:List Txt} {u2:Int} {u3:List Int} (r1:rg r 1 = .ptr 0 0)
  (g0:H.get 0=some [.int .i64 c.k,.int .i64 c.m,.int .i64 c.sh,.int .i64 c.st,.int .i64 c.sl,(SL u1),(.int .i64 u2),(IL u3)])
  (hQ:∀ r':Regs,rg r' 3 = .ptr H.next 0→rg r' 4=(SL u1)→rg r' 5=(.int .i64 u2)→rg r' 6=(IL u3)→Q .norm r' ((H.alloc zC).put H.next (cC c))):wpc Tryz.prog cd Q r H:=by
 simp [Tryz.f8,findR] at hc
 subst hc
 have haggC:aggT Tryz.prog 23=some true:=by kernel_rfl
 have hzC:szT Tryz.prog 23=some 5:=by kernel_rfl
 have hzz:zeroAV Tryz.prog 23=some (.agg zC):=by kernel_rfl
 have hcl:(AV.agg zC).cells=zC:=rfl
 have hcc:(CfA c).cells=cC c:=rfl
 refine wpc_ordJ (fun L _ h=>h=Al1H H c (L 8) (L 9)) (alSV c u1 u2 u3 H.next) (by kernel_rfl) rfl ?_ ?_
 ·intro L r2 H1 hH cl hr
  have q1:rg r2 1 = .ptr 0 0:=(ordReg0 hr (by kernel_rfl)).trans r1
  have e1:Ext H (H.alloc zC):=(Ext.refl H).alloc _
  have e2:Ext H ((H.alloc zC).put H.next (cC c)):=e1.put (Nat.le_refl _) _
  have g1:H1.get 0=some [.int .i64 c.k,.int .i64 c.m,.int .i64 c.sh,.int .i64 c.st,.int .i64 c.sl,(SL u1),(.int .i64 u2),(IL u3)]:=by
   rw [hH]
   unfold Al1H
   split
   ·exact e2.got g0
   ·split
    ·exact e1.got g0
    ·exact g0
  refine ⟨?_,?_,?_,?_,?_,?_,?_,?_,?_,?_,?_,?_,?_,trivial⟩
  all_goals (intro hL hd;simp [DepL,VL,alSV,Region.binds] at hd)
  ·simp [q1,fieldAddrX,g1,alSV];exact ⟨_,rfl,rfl,hH⟩
  ·simp [hd,g1,loadX_agg haggC,hzC,takeN,alSV,CfA];exact ⟨_,rfl,rfl,hH⟩
  ·simp [q1,fieldAddrX,g1,alSV];exact ⟨_,rfl,rfl,hH⟩
  ·simp [hd,g1,alSV];exact ⟨_,rfl,rfl,hH⟩
  ·simp [q1,fieldAddrX,g1,alSV];exact ⟨_,rfl,rfl,hH⟩
  ·simp [hd,g1,alSV];exact ⟨_,rfl,rfl,hH⟩
  ·simp [q1,fieldAddrX,g1,alSV];exact ⟨_,rfl,rfl,hH⟩
  ·simp [hd,g1,alSV];exact ⟨_,rfl,rfl,hH⟩
  ·have h9:=cl 9 8 (by kernel_rfl) hL
   have e:H1=H:=by rw [hH];unfold Al1H;simp [h9,show L 8=false from hL]
   subst e
   simp [hzz,zC,AV.cells,alSV,Al1H,h9]
  ·have l9:L 9=false:=hL
   have l8:L 8=true:=by simp [hd]
   have e:H1=H.alloc zC:=by rw [hH];unfold Al1H;simp [l9,l8]
   subst e
   simp [hd,storeX_agg,hzC,putN,Heap.get_alloc_same,Al1H,CfA,cC,zC]
  ·simp [hd,alSV];exact ⟨_,rfl,rfl,by simpa [hd] using hH⟩
  ·simp [hd,alSV];exact ⟨_,rfl,rfl,by simpa [hd] using hH⟩
  ·simp [hd,alSV];exact ⟨_,rfl,rfl,by simpa [hd] using hH⟩
 ·intro L r2 H1 hall hH hr hA
  have e:H1=(H.alloc zC).put H.next (cC c):=by rw [hH];unfold Al1H;simp [hall 9 (by decide)]
  subst e
  obtain ⟨_,_,_,_,_,_,_,_,h8,_,h10,h11,h12,_⟩:=hA
  simp [VL,alSV] at h8 h10 h11 h12
  exact hQ r2 h8 h10 h11 h12
structure SpI (p q nb:Nat) (cells:List AV) (ps:List Nat) (pv b br:Nat) (c:Cfg) (sq:Int) (L ts:List Txt) (fs:List Int) (d i:Nat) (r:Regs) (hp:Heap):Prop where
 le:i≤fs.length
 r3:rg r 3 = .ptr b 0
 r4:rg r 4=SL ts
 r6:rg r 6=IL fs
 r8:rg r 8 = .ptr pv 0
 r9:rg r 9 = .ptr br 0
 r11:rg r 11 = .int .i64 i
 gc:hp.get b=some [.int .i64 c.k,.int .i64 c.m,.int .i64 c.sh,.int .i64 c.st,.int .i64 c.sl]
 ex:∃ a n,LawV p q nb cells ps pv c 0 a sq (fun x=>x=b∨x=br) hp∧RB c a sq L d n∧hp.get br=some (rbC pv n)∧leftL c.st (fs.take i)=c.st - n
structure MwS (p q nb:Nat) (cells:List AV) (ps:List Nat) (pv pm bl bb b:Nat) (c:Cfg) (a:Arr) (sq:Int) (ts:List Txt) (bd:List Bool) (i:Nat) (r:Regs) (hp:Heap):Prop where
 le:i≤ts.length
 r3:rg r 3 = .ptr b 0
 r4:rg r 4=SL ts
 r8:rg r 8 = .ptr pv 0
 r19:rg r 19 = .ptr pm 0
 r20:rg r 20 = .int .i64 i
 gc:hp.get b=some [.int .i64 c.k,.int .i64 c.m,.int .i64 c.sh,.int .i64 c.st,.int .i64 c.sl]
 H:LawV p q nb cells ps pv c 0 a sq (EM b pm bl bb) hp
 M:MdA pm bl bb c (madeM c ts i) bd hp
structure RdS (p q nb:Nat) (cells:List AV) (ps:List Nat) (pv pm bl bb b:Nat) (c:Cfg) (a:Arr) (sq:Int) (L:List Txt) (bd:List Bool) (i:Nat) (r:Regs) (hp:Heap):Prop where
 le:i≤L.length
 r3:rg r 3 = .ptr b 0
 r8:rg r 8 = .ptr pv 0
 r19:rg r 19 = .ptr pm 0
 r21:rg r 21 = .int .i64 i
 gc:hp.get b=some [.int .i64 c.k,.int .i64 c.m,.int .i64 c.sh,.int .i64 c.st,.int .i64 c.sl]
 H:LawV p q nb cells ps pv c 0 a sq (EM b pm bl bb) hp
 M:MdA pm bl bb c L bd hp
theorem rebuildSteps_pure (c:Cfg) (ts:List Txt) (d:Int) (fs:List Int) (_:CfW c) (_:ts.length < 2 ^ 48∧∀ x∈ts,x.length < 2 ^ 63) (hdw:(Lit.int .i64 d).wf=true) (_:fs.length < 2 ^ 48∧∀ x∈fs,(Lit.int .i64 x).wf=true) :
  CPure Tryz.prog 8 [.agg [.int .i64 c.k,.int .i64 c.m,.int .i64 c.sh,.int .i64 c.st,.int .i64 c.sl,SL ts,.int .i64 d,IL fs]] (.bool true):=by
 refine CPure.of_sem (k:=1) ?_
 refine CSem.body hm Tryz.func8 rfl (by kernel_rfl) (by kernel_rfl) (by simp [Tryz.ntmps8]) ?_
 have haggC:aggT Tryz.prog 23=some true:=by kernel_rfl
 have hzC:szT Tryz.prog 23=some 5:=by kernel_rfl
 have hbne:∀ x y:Bool,binX Tryz.prog .neq 4 (.bool x) (.bool y)=some (.bool (x != y)):=fun x y=>by cases x<;>cases y<;>kernel_rfl
 refine wpc_st (fun r h=>rg r 1 = .ptr 0 0∧h=Heap.empty.alloc [.int .i64 c.k,.int .i64 c.m,.int .i64 c.sh,.int .i64 c.st,.int .i64 c.sl,SL ts,.int .i64 d,IL fs]) ?_ (by simp [AV.cells])
 rintro r _ ⟨r1,rfl⟩
 rw [wpc_seq]
 refine alS rfl r1 (Heap.get_alloc_same _ _) fun r r3 r4 r5 r6=> ?_
 have lp0:(Heap.empty.alloc [.int .i64 c.k,.int .i64 c.m,.int .i64 c.sh,.int .i64 c.st,.int .i64 c.sl,SL ts,.int .i64 d,IL fs]).lp=none:=rfl
 generalize (Heap.empty.alloc [.int .i64 c.k,.int .i64 c.m,.int .i64 c.sh,.int .i64 c.st,.int .i64 c.sl,SL ts,.int .i64 d,IL fs])=H0 at r3 lp0 ⊢
 have g1:((H0.alloc zC).put H0.next (cC c)).get H0.next=some [.int .i64 c.k,.int .i64 c.m,.int .i64 c.sh,.int .i64 c.st,.int .i64 c.sl]:=Heap.get_put_same (Heap.get_alloc_same _ _)
 have lp1:((H0.alloc zC).put H0.next (cC c)).lp=none:=lp0
 generalize (H0.alloc zC).put H0.next (cC c)=H1 at g1 lp1 ⊢
 generalize H0.next=b at r3 g1
 have hbl:=Heap.get_lt g1
 have hout:∀ (h:Heap) (K:AV→Heap→Prop),K (.bool true) h→Call Tryz.prog 24 [] h K:=out18
 simp [r3,g1,loadX_agg haggC,hzC,takeN]
 refine (rtiny_call c _).use ?_
 by_cases hT:SmL c
 rotate_left
 ·simp [hT]
  refine hout _ _ ?_
  simp
 by_cases hw6:(6:Int) < ts.length
 ·simp [hT,r4,hw6]
  refine hout _ _ ?_
  simp
 by_cases hw12:(12:Int) < fs.length
 ·simp [hT,r4,r6,hw6,hw12]
  refine hout _ _ ?_
  simp
 simp [hT,r3,r4,r6,hw6,hw12,g1,loadX_agg haggC,hzC,takeN]
 obtain ⟨hC,t1,t2,t3,t4⟩:=hT
 have h0:=conf_sl hC
 have hst:1≤c.st:=hC.2.2.2.1.1
 have hwk:IntKind.i64.wrap (c.k+c.m)=c.k+c.m:=wrap64 (by omega) (by omega)
 refine (made18_sem hC ⟨t1,t3⟩ (ts:=ts) (tv:=SL ts) (by omega) _ (.inl rfl) lp1).then ?_
 rintro _ H2 ⟨p,q,nb,cells,ps,pv,rfl,LH,F2⟩
 have LH:=LH.less (E':=fun x=>x=b) fun x hx=>by rw [hx];exact hbl
 have g2:=(F2 b hbl).trans g1
 obtain ⟨W,s0,s1⟩:=made_ok hC ts ts.length (by omega)
 generalize madeL c ts ts.length=aq at LH W s0 s1
 obtain ⟨a0,sq⟩:=aq
 simp only at LH W s0 s1
 have hLl:((madeM c ts ts.length).length:Int)=c.st:=by rw [madeM_len];omega
 have hD:(a0.disks.length:Int)=c.k+c.m:=LH.len
 simp [r5]
 refine (LH.fail d).then ?_
 rintro _ H3 ⟨rfl,L3,F3⟩
 have g3:=(F3 b rfl).trans g2
 by_cases hr:d < 0∨(a0.disks.length:Int)≤d
 ·have hf:(a0.fail d).1=a0:=fail_no (by omega)
  rw [hf] at L3
  simp [r5]
  refine (L3.rstart W.v.dn d).then ?_
  rintro _ H4 ⟨q1,_⟩
  obtain ⟨rfl,rfl⟩:=q1 hr
  by_cases d0:d < 0
  ·simp [r5,d0]
   refine hout _ _ ?_
   simp
  ·have d1:c.k+c.m≤d:=by omega
   simp [r5,d0,r3,fieldAddrX,g3,hwk,d1]
   refine hout _ _ ?_
   simp
 have d0:¬d < 0:=by omega
 have d1:¬c.k+c.m≤d:=by omega
 obtain ⟨dd,rfl⟩:=Int.eq_ofNat_of_zero_le (show 0≤d by omega)
 obtain ⟨R0,R0l,R0d,R0f⟩:=W.frb (d:=dd) (by omega)
 simp [r5]
 refine (L3.rstart R0d dd).then ?_
 rintro _ H4 ⟨_,q2⟩
 obtain ⟨br,rfl,L4,g4,F4,hne⟩:=q2 (by rw [R0f];omega)
 have nb0:=hne b rfl
 have k4:=(F4 b rfl).trans g3
 simp [r5,d0,r3,fieldAddrX,k4,hwk,d1]
 refine wpc_loop (SpI p q nb cells ps pv b br c sq (madeM c ts ts.length) ts fs dd) (fs.length - ·) ?_ 0 ?_
 rotate_left
 ·exact ⟨by omega,by simpa using r3,by simpa using r4,by simpa using r6,by simp,by simp,by simp,k4,_,0,L4,R0,g4,by simp [leftL]⟩
 clear L4 g4 F4 k4 L3 g3 F3 LH g2 F2 g1 lp1 R0 R0l R0d R0f r3 r4 r5 r6
 rintro i r hp ⟨le,r3,r4,r6,r8,r9,r11,gc,a,n,H,R,gb,hlf⟩
 have Rle:=R.le
 rcases Nat.lt_or_eq_of_le le with hlt|heq
 ·have hlt':(i:Int) < fs.length:=by omega
  have hw1:IntKind.i64.wrap ((i:Int)+1)=(i:Int)+1:=wrap64 (by omega) (by omega)
  have hi1:(i:Int)+1≤fs.length:=by omega
  have hi0:(0:Int)≤(i:Int)+1:=by omega
  have hti:((i:Int)+1).toNat=i+1:=by omega
  simp [r6,r9,r11,hlt,hlt']
  refine (H.rstep hC (by decide) (.inr rfl) gb fs[i]).then ?_
  rintro _ h2 ⟨rfl,L2,g2,F2⟩
  obtain ⟨n',e1,e2,e3,e4,R'⟩:=R.rst hC (by omega) fs[i]
  have hls:=leftL_step (s:=c.st) hlt
  rw [hlf,←e4] at hls
  rw [e1] at g2
  rw [e2,e3]
  have R'le:=R'.le
  have L2:=L2.mono (L2.q.qt R'.qt)
  have gc2:=(F2 b ⟨.inl rfl,nb0⟩).trans gc
  generalize (stepR a 7 c n fs[i]).ar=a' at L2 R'
  simp
  refine wpc_draw 6 (by kernel_rfl) ?_
  simp [r3,r6,r11,fieldAddrX,gc2,hw1,hi1,hi0,hti]
  refine ((rleft_pure (s:=c.st) (l:=fs.take (i+1)) (by omega) (by omega) (by rw [List.length_take];omega)).call (k:=3) (by simp)).use ?_
  rw [hls]
  by_cases hm:(1:Int)≤fs[i]
  ·by_cases hdn:(n':Int)=c.st
   ·have hl0:c.st - (n':Int)=0:=by omega
    simp [I64,hbne,r6,r9,r11,hlt,hlt',hm,hdn]
    refine (L2.rleft hC g2 (by omega)).use ?_
    simp [hdn,r11,hw1]
    exact ⟨i+1,by omega,by omega,by simpa using r3,by simpa using r4,by simpa using r6,by simpa using r8,by simpa using r9,by simp,gc2,a',n',L2,R',g2,hls⟩
   ·have hl0:¬c.st - (n':Int)=0:=by omega
    simp [I64,hbne,r6,r9,r11,hlt,hlt',hm,hdn,hl0]
    refine (L2.rleft hC g2 (by omega)).use ?_
    simp [hdn,r11,hw1]
    exact ⟨i+1,by omega,by omega,by simpa using r3,by simpa using r4,by simpa using r6,by simpa using r8,by simpa using r9,by simp,gc2,a',n',L2,R',g2,hls⟩
  ·simp [I64,hbne,r6,r9,r11,hlt,hlt',hm]
   refine (L2.rleft hC g2 (by omega)).use ?_
   simp [r11,hw1]
   exact ⟨i+1,by omega,by omega,by simpa using r3,by simpa using r4,by simpa using r6,by simpa using r8,by simpa using r9,by simp,gc2,a',n',L2,R',g2,hls⟩
 subst heq
 simp [r3,r6,r9,r11,fieldAddrX,gc]
 refine (H.rstep hC (by decide) (.inr rfl) gb c.st).then ?_
 rintro _ H5 ⟨rfl,L5,g5,F5⟩
 obtain ⟨n',e1,e2,e3,e4,R'⟩:=R.rst hC (by omega) c.st
 have hn':(n':Int)=c.st:=by
  unfold lefS at e4
  rw [if_pos hst] at e4
  omega
 have W5:=R'.wh hst hn'
 have hlen5:=W5.len
 rw [e2,e3]
 have L5:=(L5.mono (L5.q.qt R'.qt)).less (E':=fun x=>x=b) fun x hx=> .inl hx
 have gc5:=(F5 b ⟨.inl rfl,nb0⟩).trans gc
 generalize (stepR a 7 c n c.st).ar=a' at L5 R' W5 hlen5
 have hsd:=W5.fl.stands t1 hst (by omega)
 have hbd:=W5.v.lbd (by omega) hst
 rw [if_pos (by omega)] at hsd
 simp [hst,hn',r8]
 refine (L5.stands hC (by decide) hbd).use ?_
 rw [hsd]
 simp [r3,fieldAddrX,gc5,loadX_agg haggC,hzC,takeN]
 clear H gb gc F5 g5
 refine (L5.mnew hC).then ?_
 rintro _ H6 ⟨pm,bl,bb,rfl,L6,M6,F6,hne6⟩
 obtain ⟨n1,n2,n3⟩:=hne6 b rfl
 have g6:=(F6 b rfl).trans gc5
 generalize List.replicate (c.k+c.m).toNat false=bd at M6
 simp
 refine wpc_loop (MwS p q nb cells ps pv pm bl bb b c a' sq ts bd) (ts.length - ·) ?_ 0 ?_
 rotate_left
 ·exact ⟨by omega,by simpa using r3,by simpa using r4,by simpa using r8,by simp,by simp,g6,L6,M6⟩
 clear L6 M6 F6 g6 L5 gc5 r3 r4 r6 r8 r9 r11
 rintro i r hp ⟨le,r3,r4,r8,r19,r20,gc,H,M⟩
 rcases Nat.lt_or_eq_of_le le with hlt|heq
 ·have hlt':(i:Int) < ts.length:=by omega
  have hw1:IntKind.i64.wrap ((i:Int)+1)=(i:Int)+1:=wrap64 (by omega) (by omega)
  simp [r4,r19,r20,hlt,hlt']
  refine (H.mw M (.inr (.inr (.inl rfl))) (by rw [madeM_len];omega) i ts[i]).then ?_
  rintro _ h2 ⟨rfl,H2,M2,F2⟩
  simp [r20,hw1]
  refine ⟨i+1,by omega,by omega,by simpa using r3,by simpa using r4,by simpa using r8,by simpa using r19,by simp,(F2 b n2).trans gc,H2,?_⟩
  have hti:ts[i]?.getD []=ts[i]:=by simp [hlt]
  rw [madeM,hti]
  exact M2
 subst heq
 generalize madeM c ts ts.length=L at W5 M hLl
 simp [r4,r20]
 refine wpc_loop (RdS p q nb cells ps pv pm bl bb b c a' sq L bd) (L.length - ·) ?_ 0 ?_
 rotate_left
 ·exact ⟨by omega,by simpa using r3,by simpa using r8,by simpa using r19,by simp,gc,H,M⟩
 clear H M gc r3 r4 r8 r19 r20
 rintro i r hp ⟨le,r3,r8,r19,r21,gc,H,M⟩
 rcases Nat.lt_or_eq_of_le le with hlt|heq
 ·have hlt':(i:Int) < c.st:=by omega
  have hw1:IntKind.i64.wrap ((i:Int)+1)=(i:Int)+1:=wrap64 (by omega) (by omega)
  have gm:=M.gm
  have gl:=M.gl
  simp only [mdC] at gm
  simp [r3,r8,r21,fieldAddrX,gc,hlt']
  refine (H.read hC (by decide) i).use ?_
  rw [W5.v.read W5.gd i,mRd_at hLl hlt]
  simp [r19,r21,fieldAddrX,gm,gl,hlt,hw1]
  exact ⟨i+1,by omega,by omega,by simpa using r3,by simpa using r8,by simpa using r19,by simp,gc,H,M⟩
 ·have hge:¬((i:Int) < c.st):=by omega
  simp [r3,r21,fieldAddrX,gc,hge]
  refine hout _ _ ?_
  simp
end Go.Proofs.YtngbipjclpncoaaGreatDoor.X
