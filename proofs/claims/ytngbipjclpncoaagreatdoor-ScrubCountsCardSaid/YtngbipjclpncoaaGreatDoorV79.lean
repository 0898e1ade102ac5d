/-
  ScrubWhole, ScrubCounts.
-/
import Derived.Test.YtngbipjclpncoaaGreatDoorV82
namespace Go.Proofs.YtngbipjclpncoaaGreatDoor.X
open Go.RowKit F
set_option maxRecDepth 100000
set_option linter.unusedSimpArgs false
set_option linter.unusedVariables false
def alWV (c:Cfg) (u1:List Txt) (u2:Int) (u3:Int) (q:Nat):Nat→AV→Prop
 | 0,v=>v = .ptr 0 0
 | 1,v=>v=CfA c
 | 2,v=>v = .ptr 0 5
 | 3,v=>v=(SL u1)
 | 4,v=>v = .ptr 0 6
 | 5,v=>v=(.int .i64 u2)
 | 6,v=>v = .ptr 0 7
 | 7,v=>v=(.int .i64 u3)
 | 8,v=>v = .ptr q 0
 | 10,v=>v=(SL u1)
 | 11,v=>v=(.int .i64 u2)
 | 12,v=>v=(.int .i64 u3)
 | _,v=>True
theorem alW {cd:Code} (hc:(Tryz.f3.body).bind (findR 1)=some cd) {r:Regs} {H:Heap} {Q:Out→Regs→Heap→Prop} {c:Cfg} {u1:List Txt} {u2:Int} {u3:Int} (r1:rg r 1 = .ptr 0 0)
  (g0:H.get 0=some [.int .i64 c.k,.int .i64 c.m,.int .i64 c.sh,.int .i64 c.st,.int .i64 c.sl,(SL u1),(.int .i64 u2),(.int .i64 u3)])
  (hQ:∀ r':Regs,rg r' 3 = .ptr H.next 0→rg r' 4=(SL u1)→rg r' 5=(.int .i64 u2)→rg r' 6=(.int .i64 u3)→Q .norm r' ((H.alloc zC).put H.next (cC c))):wpc Tryz.prog cd Q r H:=by
 simp [Tryz.f3,findR] at hc
 subst hc
 have haggC:aggT Tryz.prog 23=some true:=by kernel_rfl
 have hzC:szT Tryz.prog 23=some 5:=by kernel_rfl
 have hzz:zeroAV Tryz.prog 23=some (.agg zC):=by kernel_rfl
 have hcl:(AV.agg zC).cells=zC:=rfl
 have hcc:(CfA c).cells=cC c:=rfl
 refine wpc_ordJ (fun L _ h=>h=Al1H H c (L 8) (L 9)) (alWV c u1 u2 u3 H.next) (by kernel_rfl) rfl ?_ ?_
 ·intro L r2 H1 hH cl hr
  have q1:rg r2 1 = .ptr 0 0:=(ordReg0 hr (by kernel_rfl)).trans r1
  have e1:Ext H (H.alloc zC):=(Ext.refl H).alloc _
  have e2:Ext H ((H.alloc zC).put H.next (cC c)):=e1.put (Nat.le_refl _) _
  have g1:H1.get 0=some [.int .i64 c.k,.int .i64 c.m,.int .i64 c.sh,.int .i64 c.st,.int .i64 c.sl,(SL u1),(.int .i64 u2),(.int .i64 u3)]:=by
   rw [hH]
   unfold Al1H
   split
   ·exact e2.got g0
   ·split
    ·exact e1.got g0
    ·exact g0
  refine ⟨?_,?_,?_,?_,?_,?_,?_,?_,?_,?_,?_,?_,?_,trivial⟩
  all_goals (intro hL hd;simp [DepL,VL,alWV,Region.binds] at hd)
  ·simp [q1,fieldAddrX,g1,alWV];exact ⟨_,rfl,rfl,hH⟩
  ·simp [hd,g1,loadX_agg haggC,hzC,takeN,alWV,CfA];exact ⟨_,rfl,rfl,hH⟩
  ·simp [q1,fieldAddrX,g1,alWV];exact ⟨_,rfl,rfl,hH⟩
  ·simp [hd,g1,alWV];exact ⟨_,rfl,rfl,hH⟩
  ·simp [q1,fieldAddrX,g1,alWV];exact ⟨_,rfl,rfl,hH⟩
  ·simp [hd,g1,alWV];exact ⟨_,rfl,rfl,hH⟩
  ·simp [q1,fieldAddrX,g1,alWV];exact ⟨_,rfl,rfl,hH⟩
  ·simp [hd,g1,alWV];exact ⟨_,rfl,rfl,hH⟩
  ·have h9:=cl 9 8 (by kernel_rfl) hL
   have e:H1=H:=by rw [hH];unfold Al1H;simp [h9,show L 8=false from hL]
   subst e
   simp [hzz,zC,AV.cells,alWV,Al1H,h9]
  ·have l9:L 9=false:=hL
   have l8:L 8=true:=by simp [hd]
   have e:H1=H.alloc zC:=by rw [hH];unfold Al1H;simp [l9,l8]
   subst e
   simp [hd,storeX_agg,hzC,putN,Heap.get_alloc_same,Al1H,CfA,cC,zC]
  ·simp [hd,alWV];exact ⟨_,rfl,rfl,by simpa [hd] using hH⟩
  ·simp [hd,alWV];exact ⟨_,rfl,rfl,by simpa [hd] using hH⟩
  ·simp [hd,alWV];exact ⟨_,rfl,rfl,by simpa [hd] using hH⟩
 ·intro L r2 H1 hall hH hr hA
  have e:H1=(H.alloc zC).put H.next (cC c):=by rw [hH];unfold Al1H;simp [hall 9 (by decide)]
  subst e
  obtain ⟨_,_,_,_,_,_,_,_,h8,_,h10,h11,h12,_⟩:=hA
  simp [VL,alWV] at h8 h10 h11 h12
  exact hQ r2 h8 h10 h11 h12
theorem scrubWhole_pure (c:Cfg) (ts:List Txt) (fr many:Int) (_:CfW c) (_:ts.length < 2 ^ 48∧∀ x∈ts,x.length < 2 ^ 63) (hfr:(Lit.int .i64 fr).wf=true) (hmn:(Lit.int .i64 many).wf=true) :
  CPure Tryz.prog 3 [.agg [.int .i64 c.k,.int .i64 c.m,.int .i64 c.sh,.int .i64 c.st,.int .i64 c.sl,SL ts,.int .i64 fr,.int .i64 many]] (.bool true):=by
 refine CPure.of_sem (k:=1) ?_
 refine CSem.body hm Tryz.func3 rfl (by kernel_rfl) (by kernel_rfl) (by simp [Tryz.ntmps3]) ?_
 have haggC:aggT Tryz.prog 23=some true:=by kernel_rfl
 have hzC:szT Tryz.prog 23=some 5:=by kernel_rfl
 have haggR:aggT Tryz.prog 34=some true:=by kernel_rfl
 have hzR:szT Tryz.prog 34=some 4:=by kernel_rfl
 have hzr:zeroAV Tryz.prog 34=some (.agg [.int .i64 0,.int .i64 0,.int .i64 0,.bool false]):=by kernel_rfl
 have hb0:buildX Tryz.prog 34 []=some (.agg [.int .i64 0,.int .i64 0,.int .i64 0,.bool false]):=by kernel_rfl
 have hb1:∀ n d,buildX Tryz.prog 34 [(0,.int .i64 n),(3,.bool d)]=some (.agg [.int .i64 n,.int .i64 0,.int .i64 0,.bool d]):=fun n d=>by kernel_rfl
 refine wpc_st (fun r h=>rg r 1 = .ptr 0 0∧h=Heap.empty.alloc [.int .i64 c.k,.int .i64 c.m,.int .i64 c.sh,.int .i64 c.st,.int .i64 c.sl,SL ts,.int .i64 fr,.int .i64 many]) ?_ (by simp [AV.cells])
 rintro r _ ⟨r1,rfl⟩
 rw [wpc_seq]
 refine alW rfl r1 (Heap.get_alloc_same _ _) fun r r3 r4 r5 r6=> ?_
 have lp0:(Heap.empty.alloc [.int .i64 c.k,.int .i64 c.m,.int .i64 c.sh,.int .i64 c.st,.int .i64 c.sl,SL ts,.int .i64 fr,.int .i64 many]).lp=none:=rfl
 generalize (Heap.empty.alloc [.int .i64 c.k,.int .i64 c.m,.int .i64 c.sh,.int .i64 c.st,.int .i64 c.sl,SL ts,.int .i64 fr,.int .i64 many])=H0 at r3 lp0 ⊢
 have g1:((H0.alloc zC).put H0.next (cC c)).get H0.next=some [.int .i64 c.k,.int .i64 c.m,.int .i64 c.sh,.int .i64 c.st,.int .i64 c.sl]:=Heap.get_put_same (Heap.get_alloc_same _ _)
 have lp1:((H0.alloc zC).put H0.next (cC c)).lp=none:=lp0
 generalize (H0.alloc zC).put H0.next (cC c)=H1 at g1 lp1 ⊢
 generalize H0.next=b at r3 g1
 have hbl:=Heap.get_lt g1
 simp [r3,r4,r5,r6,g1,loadX_agg haggC,hzC,takeN]
 have hout:∀ (h:Heap) (K:AV→Heap→Prop),K (.bool true) h→Call Tryz.prog 12 [] h K:=out17
 refine (rtiny_call c _).use ?_
 by_cases hT:SmL c
 rotate_left
 ·simp [hT]
  refine hout _ _ ?_
  simp
 by_cases hw6:(6:Int) < ts.length
 ·simp [hT,r4,hw6]
  refine hout _ _ ?_
  simp
 simp [hT,r3,r4,hw6,g1,loadX_agg haggC,hzC,takeN]
 obtain ⟨hC,t1,t2,t3,t4⟩:=hT
 have h0:=conf_sl hC
 refine (made17_sem hC ⟨t1,t3⟩ (ts:=ts) (tv:=SL ts) (by omega) _ (.inl rfl) lp1).then ?_
 rintro _ H2 ⟨p,q,nb,cells,ps,pv,rfl,LH,F2⟩
 have LH:=LH.less (E':=fun x=>x=b) fun x hx=>by rw [hx];exact hbl
 have g2:=(F2 b hbl).trans g1
 obtain ⟨W,s0,s1⟩:=made_ok hC ts ts.length (by omega)
 generalize madeL c ts ts.length=aq at LH W s0 s1
 obtain ⟨a,sq⟩:=aq
 simp only at LH W s0 s1
 simp [r5,r6]
 refine (LH.step hC (by decide) fr many).then ?_
 rintro _ H3 ⟨rfl,L3,F3⟩
 have g3:=(F3 b rfl).trans g2
 simp only [repC]
 simp [hzr,AV.cells,storeX_agg,hzR,putN,Heap.get_alloc_same]
 generalize hS:stepR a 7 c fr many=ST at L3 ⊢
 obtain ⟨L4,g4,F4⟩:=L3.box [.int .i64 0,.int .i64 0,.int .i64 0,.bool false] [.int .i64 ST.rp.nx,.int .i64 ST.rp.me,.int .i64 ST.rp.lo,.bool ST.rp.dn]
 have gc4:=(F4 b rfl).trans g3
 generalize (H3.alloc [.int .i64 0,.int .i64 0,.int .i64 0,.bool false]).put H3.next [.int .i64 ST.rp.nx,.int .i64 ST.rp.me,.int .i64 ST.rp.lo,.bool ST.rp.dn]=H4 at L4 g4 gc4 ⊢
 generalize H3.next=b9 at L4 g4 ⊢
 have bad:fr < 0∨c.st < fr∨many < 1→ST=⟨a,rep0,1⟩:=fun hb=>by rw [←hS];unfold stepR;rw [if_pos hb]
 by_cases f0:fr < 0
 ·have:=bad (.inl f0)
  subst this
  simp [r5,f0,g4,loadX_agg haggR,hzR,takeN,hb0,rep0,rep_cmp]
  refine hout _ _ ?_
  simp
 by_cases f1:c.st < fr
 ·have:=bad (.inr (.inl f1))
  subst this
  simp [r3,r5,f0,f1,fieldAddrX,gc4,g4,loadX_agg haggR,hzR,takeN,hb0,rep0,rep_cmp]
  refine hout _ _ ?_
  simp
 by_cases f2:many < 1
 ·have:=bad (.inr (.inr f2))
  subst this
  simp [r3,r5,r6,f0,f1,f2,fieldAddrX,gc4,g4,loadX_agg haggR,hzR,takeN,hb0,rep0,rep_cmp]
  refine hout _ _ ?_
  simp
 have w0:IntKind.i64.wrap (c.st - fr)=c.st - fr:=wrap64 (by omega) (by omega)
 have hmn:(if c.st - fr < many then c.st - fr else many)=min many (c.st - fr):=by split<;>omega
 have w1:IntKind.i64.wrap (fr+min many (c.st - fr))=fr+min many (c.st - fr):=wrap64 (by omega) (by omega)
 obtain ⟨ze,zr,_,_⟩:=W.ex.step0 (by omega) (fr:=fr) (many:=many) (by omega) (by omega) (by omega)
 rw [hS] at ze zr
 rw [zr] at g4
 simp [r3,r5,r6,f0,f1,f2,fieldAddrX,gc4,w0,w1,min2X,hmn,g4,loadX_agg haggR,hzR,takeN,hb1,rep_cmp,ze]
 refine hout _ _ ?_
 simp
theorem rstripe_pure {c:Cfg} (hc:ConfP c) {n:Int} (h0:0≤n) (h1:n < c.st):CPure Tryz.prog 16 [CfA c,.int .i64 n] (.int .i64 (1+c.sl+n)):=by
 refine CPure.of_sem (k:=1) ?_
 refine CSem.body hm Tryz.func16 rfl (by kernel_rfl) (by kernel_rfl) (by simp [Tryz.ntmps16]) ?_
 have k0:=conf_sl hc
 have w1:IntKind.i64.wrap (1+c.sl)=1+c.sl:=wrap64 (by omega) (by omega)
 have w2:IntKind.i64.wrap (1+c.sl+n)=1+c.sl+n:=wrap64 (by omega) (by omega)
 have n0:¬n < 0:=by omega
 have n1:¬c.st≤n:=by omega
 simp [Tryz.f16,CfA,AV.cells,fieldAddrX,loadX_agg,takeN,Heap.get_alloc]
 refine (rconfCheck_call c _).use ?_
 simp [hc,fieldAddrX,Heap.get_alloc,w1,w2,n0,n1]
structure CnI (p q nb:Nat) (cells:List AV) (ps:List Nat) (pv b:Nat) (c:Cfg) (D:Nat) (sq:Int) (L:List Txt) (n:Nat) (i:Nat) (r:Regs) (hp:Heap):Prop where
 le:i≤(c.m+1).toNat
 r2:rg r 2 = .int .i64 n
 r3:rg r 3 = .ptr b 0
 r7:rg r 7 = .ptr p 0
 r8:rg r 8 = .ptr pv 0
 r9:rg r 9 = .int .i64 i
 gc:hp.get b=some [.int .i64 c.k,.int .i64 c.m,.int .i64 c.sh,.int .i64 c.st,.int .i64 c.sl]
 ex:∃ a,LawV p q nb cells ps pv c 0 a sq (fun x=>x=b) hp∧EX c a sq L (colX (stP c n) i)∧a.disks.length=D
theorem scrubCounts_pure (c:Cfg) (ts:List Txt) (n:Int) (_:CfW c) (_:ts.length < 2 ^ 48) (_:∀ x∈ts,x.length < 2 ^ 63) (hn:(Lit.int .i64 n).wf=true) :
  CPure Tryz.prog 4 [CfA c,SL ts,.int .i64 n] (.bool true):=by
 refine CPure.of_sem (k:=1) ?_
 refine CSem.body hm Tryz.func4 rfl (by kernel_rfl) (by kernel_rfl) (by simp [Tryz.ntmps4]) ?_
 have haggC:aggT Tryz.prog 23=some true:=by kernel_rfl
 have hzC:szT Tryz.prog 23=some 5:=by kernel_rfl
 have haggR:aggT Tryz.prog 34=some true:=by kernel_rfl
 have hzR:szT Tryz.prog 34=some 4:=by kernel_rfl
 have hzr:zeroAV Tryz.prog 34=some (.agg [.int .i64 0,.int .i64 0,.int .i64 0,.bool false]):=by kernel_rfl
 have hb1:∀ n m d,buildX Tryz.prog 34 [(0,.int .i64 n),(2,.int .i64 m),(3,.bool d)]=some (.agg [.int .i64 n,.int .i64 0,.int .i64 m,.bool d]):=fun n m d=>by kernel_rfl
 have hcC:(CfA c).cells=[.int .i64 c.k,.int .i64 c.m,.int .i64 c.sh,.int .i64 c.st,.int .i64 c.sl]:=rfl
 have hout:∀ (h:Heap) (K:AV→Heap→Prop),K (.bool true) h→Call Tryz.prog 12 [] h K:=out17
 refine wpc_st (fun r h=>rg r 1=SL ts∧rg r 2 = .int .i64 n∧rg r 3 = .ptr 0 0∧h=Heap.empty.alloc [.int .i64 c.k,.int .i64 c.m,.int .i64 c.sh,.int .i64 c.st,.int .i64 c.sl]) ?_ (by simp [hcC])
 rintro r _ ⟨r1,r2,r3,rfl⟩
 have g1:(Heap.empty.alloc [.int .i64 c.k,.int .i64 c.m,.int .i64 c.sh,.int .i64 c.st,.int .i64 c.sl]).get 0=some [.int .i64 c.k,.int .i64 c.m,.int .i64 c.sh,.int .i64 c.st,.int .i64 c.sl]:=Heap.get_alloc_same Heap.empty _
 have lp1:(Heap.empty.alloc [.int .i64 c.k,.int .i64 c.m,.int .i64 c.sh,.int .i64 c.st,.int .i64 c.sl]).lp=none:=rfl
 generalize (Heap.empty.alloc [.int .i64 c.k,.int .i64 c.m,.int .i64 c.sh,.int .i64 c.st,.int .i64 c.sl])=H1 at g1 lp1 ⊢
 have hbl:=Heap.get_lt g1
 simp [r3,g1,loadX_agg haggC,hzC,takeN]
 refine (rtiny_call c _).use ?_
 by_cases hT:SmL c
 rotate_left
 ·simp [hT]
  refine hout _ _ ?_
  simp
 by_cases hw6:(6:Int) < ts.length
 ·simp [hT,r1,hw6]
  refine hout _ _ ?_
  simp
 by_cases n0:n < 0
 ·simp [hT,r1,r2,hw6,n0]
  refine hout _ _ ?_
  simp
 by_cases n1:c.st≤n
 ·simp [hT,r1,r2,r3,hw6,n0,fieldAddrX,g1,n1]
  refine hout _ _ ?_
  simp
 obtain ⟨nn,rfl⟩:=Int.eq_ofNat_of_zero_le (show 0≤n by omega)
 simp [hT,r1,r2,r3,hw6,n0,n1,fieldAddrX,g1,loadX_agg haggC,hzC,takeN]
 obtain ⟨hC,t1,t2,t3,t4⟩:=hT
 have h0:=conf_sl hC
 refine (made17_sem hC ⟨t1,t3⟩ (ts:=ts) (tv:=SL ts) (by omega) _ (.inl rfl) lp1).then ?_
 rintro _ H2 ⟨p,q,nb,cells,ps,pv,rfl,LH,F2⟩
 have LH:=LH.less (E':=fun x=>x=0) fun x hx=>by rw [hx];exact hbl
 have g2:=(F2 0 hbl).trans g1
 obtain ⟨W,s0,s1⟩:=made_ok hC ts ts.length (by omega)
 generalize madeL c ts ts.length=aq at LH W s0 s1
 generalize madeM c ts ts.length=Lm at W
 obtain ⟨a0,sq⟩:=aq
 simp only at LH W s0 s1
 have hD:(a0.disks.length:Int)=c.k+c.m:=LH.len
 have hst:((stP c nn:Nat):Int)=1+c.sl+nn:=by unfold stP;omega
 have hcol0:(fun _ _=>false)=colX (stP c nn) 0:=by funext d p;simp [colX]
 simp
 refine wpc_loop (CnI p q nb cells ps pv 0 c a0.disks.length sq Lm nn) ((c.m+1).toNat - ·) ?_ 0 ?_
 rotate_left
 ·exact ⟨by omega,by simpa using r2,by simpa using r3,by simp,by simp,by simp,g2,a0,LH,by rw [←hcol0];exact W.ex,rfl⟩
 clear LH g2 F2 g1 lp1 r1 r2 r3 hbl
 rintro i r hp ⟨le,r2,r3,r7,r8,r9,gc,a,LH,X,hDa⟩
 rcases Nat.lt_or_eq_of_le le with hlt|heq
 ·have hlt':(i:Int)≤c.m:=by omega
  have hw1:IntKind.i64.wrap ((i:Int)+1)=(i:Int)+1:=wrap64 (by omega) (by omega)
  simp [r9,r3,r7,r2,fieldAddrX,gc,hlt',loadX_agg haggC,hzC,takeN]
  refine ((rstripe_pure hC (n:=nn) (by omega) (by omega)).call (k:=2) (by simp [CfA,snap,mapL])).use ?_
  simp
  obtain ⟨c1,c2,c3⟩:=X.corr (d:=i) (p:=stP c nn) (by omega) (by omega) (s:=[]) (by decide) (by simp;have:=hC.2.2.1.1;have:=Int.mul_nonneg (show 0≤c.k by omega) (show 0≤c.sh by omega);omega)
  rw [hst] at c1 c2 c3
  refine (LH.corr (by decide) i (1+c.sl+nn) []).then ?_
  rintro _ h2 ⟨rfl,L2,F2⟩
  rw [col_step] at c2
  simp [r9,hw1]
  exact ⟨i+1,by omega,by omega,by simpa using r2,by simpa using r3,by simpa using r7,by simpa using r8,by simp,(F2 0 rfl).trans gc,_,L2,c2,by omega⟩
 ·subst heq
  have hge:¬max (c.m+1) 0≤c.m:=by omega
  simp [r9,r3,r8,fieldAddrX,gc,hge]
  obtain ⟨l1,l2,l3,l4,l5⟩:=EX.lost (n:=nn) (by omega) X (by omega)
  refine (LH.all hC (by decide)).then ?_
  rintro _ H3 ⟨rfl,L3,F3⟩
  have g3:=(F3 0 rfl).trans gc
  simp only [repC,l1,l2]
  simp [hzr,AV.cells,storeX_agg,hzR,putN,Heap.get_alloc_same]
  obtain ⟨L4,g4,F4⟩:=L3.box [.int .i64 0,.int .i64 0,.int .i64 0,.bool false] [.int .i64 c.st,.int .i64 0,.int .i64 1,.bool true]
  have gc4:=(F4 0 rfl).trans g3
  generalize (H3.alloc [.int .i64 0,.int .i64 0,.int .i64 0,.bool false]).put H3.next [.int .i64 c.st,.int .i64 0,.int .i64 1,.bool true]=H4 at L4 g4 gc4 ⊢
  generalize H3.next=b9 at L4 g4 ⊢
  simp [r8]
  refine (L4.least hC (by decide)).use ?_
  have l5':(leastR (scAllR a 7 c).ar 7 c).2=10:=l5
  rw [l5']
  simp [r3,fieldAddrX,gc4,g4,loadX_agg haggR,hzR,takeN,hb1,rep_cmp]
  refine hout _ _ ?_
  simp
end Go.Proofs.YtngbipjclpncoaaGreatDoor.X
