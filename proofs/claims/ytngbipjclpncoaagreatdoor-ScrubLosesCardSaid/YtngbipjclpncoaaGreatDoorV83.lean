/-
  ScrubLoses.
-/
import Derived.Test.YtngbipjclpncoaaGreatDoorV81
import Derived.Test.YtngbipjclpncoaaGreatDoorV82
import Derived.Test.YtngbipjclpncoaaGreatDoorP25
namespace Go.Proofs.YtngbipjclpncoaaGreatDoor.X
open Go.RowKit F
set_option maxRecDepth 100000
set_option linter.unusedSimpArgs false
set_option linter.unusedVariables false
def alLV (c:Cfg) (u1:List Txt) (u2:List HuD) (u3:List Int) (q:Nat):Nat→AV→Prop
 | 0,v=>v = .ptr 0 0
 | 1,v=>v=CfA c
 | 2,v=>v = .ptr 0 5
 | 3,v=>v=(SL u1)
 | 4,v=>v = .ptr 0 6
 | 5,v=>v=(TR HuC u2)
 | 6,v=>v = .ptr 0 7
 | 7,v=>v=(IL u3)
 | 8,v=>v = .ptr q 0
 | 10,v=>v=(SL u1)
 | 11,v=>v=(TR HuC u2)
 | 12,v=>v=(IL u3)
 | _,v=>True
theorem alL {cd:Code} (hc:(Tryz.f6.body).bind (findR 1)=some cd) {r:Regs} {H:Heap} {Q:Out→Regs→Heap→Prop} {c:Cfg} {u1:List Txt} {u2:List HuD} {u3:List Int} (r1:rg r 1 = .ptr 0 0)
  (g0:H.get 0=some [.int .i64 c.k,.int .i64 c.m,.int .i64 c.sh,.int .i64 c.st,.int .i64 c.sl,(SL u1),(TR HuC u2),(IL u3)])
  (hQ:∀ r':Regs,rg r' 3 = .ptr H.next 0→rg r' 4=(SL u1)→rg r' 5=(TR HuC u2)→rg r' 6=(IL u3)→Q .norm r' ((H.alloc zC).put H.next (cC c))):wpc Tryz.prog cd Q r H:=by
 simp [Tryz.f6,findR] at hc
 subst hc
 have haggC:aggT Tryz.prog 23=some true:=by kernel_rfl
 have hzC:szT Tryz.prog 23=some 5:=by kernel_rfl
 have hzz:zeroAV Tryz.prog 23=some (.agg zC):=by kernel_rfl
 have hcl:(AV.agg zC).cells=zC:=rfl
 have hcc:(CfA c).cells=cC c:=rfl
 refine wpc_ordJ (fun L _ h=>h=Al1H H c (L 8) (L 9)) (alLV c u1 u2 u3 H.next) (by kernel_rfl) rfl ?_ ?_
 ·intro L r2 H1 hH cl hr
  have q1:rg r2 1 = .ptr 0 0:=(ordReg0 hr (by kernel_rfl)).trans r1
  have e1:Ext H (H.alloc zC):=(Ext.refl H).alloc _
  have e2:Ext H ((H.alloc zC).put H.next (cC c)):=e1.put (Nat.le_refl _) _
  have g1:H1.get 0=some [.int .i64 c.k,.int .i64 c.m,.int .i64 c.sh,.int .i64 c.st,.int .i64 c.sl,(SL u1),(TR HuC u2),(IL u3)]:=by
   rw [hH]
   unfold Al1H
   split
   ·exact e2.got g0
   ·split
    ·exact e1.got g0
    ·exact g0
  refine ⟨?_,?_,?_,?_,?_,?_,?_,?_,?_,?_,?_,?_,?_,trivial⟩
  all_goals (intro hL hd;simp [DepL,VL,alLV,Region.binds] at hd)
  ·simp [q1,fieldAddrX,g1,alLV];exact ⟨_,rfl,rfl,hH⟩
  ·simp [hd,g1,loadX_agg haggC,hzC,takeN,alLV,CfA];exact ⟨_,rfl,rfl,hH⟩
  ·simp [q1,fieldAddrX,g1,alLV];exact ⟨_,rfl,rfl,hH⟩
  ·simp [hd,g1,alLV];exact ⟨_,rfl,rfl,hH⟩
  ·simp [q1,fieldAddrX,g1,alLV];exact ⟨_,rfl,rfl,hH⟩
  ·simp [hd,g1,alLV];exact ⟨_,rfl,rfl,hH⟩
  ·simp [q1,fieldAddrX,g1,alLV];exact ⟨_,rfl,rfl,hH⟩
  ·simp [hd,g1,alLV];exact ⟨_,rfl,rfl,hH⟩
  ·have h9:=cl 9 8 (by kernel_rfl) hL
   have e:H1=H:=by rw [hH];unfold Al1H;simp [h9,show L 8=false from hL]
   subst e
   simp [hzz,zC,AV.cells,alLV,Al1H,h9]
  ·have l9:L 9=false:=hL
   have l8:L 8=true:=by simp [hd]
   have e:H1=H.alloc zC:=by rw [hH];unfold Al1H;simp [l9,l8]
   subst e
   simp [hd,storeX_agg,hzC,putN,Heap.get_alloc_same,Al1H,CfA,cC,zC]
  ·simp [hd,alLV];exact ⟨_,rfl,rfl,by simpa [hd] using hH⟩
  ·simp [hd,alLV];exact ⟨_,rfl,rfl,by simpa [hd] using hH⟩
  ·simp [hd,alLV];exact ⟨_,rfl,rfl,by simpa [hd] using hH⟩
 ·intro L r2 H1 hall hH hr hA
  have e:H1=(H.alloc zC).put H.next (cC c):=by rw [hH];unfold Al1H;simp [hall 9 (by decide)]
  subst e
  obtain ⟨_,_,_,_,_,_,_,_,h8,_,h10,h11,h12,_⟩:=hA
  simp [VL,alLV] at h8 h10 h11 h12
  exact hQ r2 h8 h10 h11 h12
structure FaI (p q nb:Nat) (cells:List AV) (ps:List Nat) (pv b:Nat) (c:Cfg) (sq:Int) (L:List Txt) (ts:List Txt) (fs:List Int) (D:Nat) (i:Nat) (r:Regs) (hp:Heap):Prop where
 le:i≤fs.length
 r3:rg r 3 = .ptr b 0
 r4:rg r 4=SL ts
 r6:rg r 6=IL fs
 r7:rg r 7 = .ptr p 0
 r8:rg r 8 = .ptr pv 0
 r11:rg r 11 = .int .i64 i
 gc:hp.get b=some [.int .i64 c.k,.int .i64 c.m,.int .i64 c.sh,.int .i64 c.st,.int .i64 c.sl]
 ex:∃ a,LawV p q nb cells ps pv c 0 a sq (fun x=>x=b) hp∧VS c a sq L (fun _=>False)∧a.disks.length=D∧D≤(aliveL a a.disks.length).length+i
structure MwL (p q nb:Nat) (cells:List AV) (ps:List Nat) (pv pm bl bb b:Nat) (c:Cfg) (a:Arr) (sq:Int) (ts:List Txt) (bd:List Bool) (i:Nat) (r:Regs) (hp:Heap):Prop where
 le:i≤ts.length
 r3:rg r 3 = .ptr b 0
 r4:rg r 4=SL ts
 r8:rg r 8 = .ptr pv 0
 r12:rg r 12 = .ptr pm 0
 r13:rg r 13 = .int .i64 i
 gc:hp.get b=some [.int .i64 c.k,.int .i64 c.m,.int .i64 c.sh,.int .i64 c.st,.int .i64 c.sl]
 H:LawV p q nb cells ps pv c 0 a sq (EM b pm bl bb) hp
 M:MdA pm bl bb c (madeM c ts i) bd hp
structure RdL (p q nb:Nat) (cells:List AV) (ps:List Nat) (pv pm bl bb b:Nat) (c:Cfg) (a:Arr) (sq:Int) (L:List Txt) (bd:List Bool) (i:Nat) (r:Regs) (hp:Heap):Prop where
 le:i≤L.length
 r3:rg r 3 = .ptr b 0
 r8:rg r 8 = .ptr pv 0
 r12:rg r 12 = .ptr pm 0
 r14:rg r 14 = .int .i64 i
 gc:hp.get b=some [.int .i64 c.k,.int .i64 c.m,.int .i64 c.sh,.int .i64 c.st,.int .i64 c.sl]
 H:LawV p q nb cells ps pv c 0 a sq (EM b pm bl bb) hp
 M:MdA pm bl bb c L bd hp
theorem scrubLoses_pure (c:Cfg) (ts:List Txt) (l:List HuD) (fs:List Int) (_:CfW c) (_:ts.length < 2 ^ 48∧∀ x∈ts,x.length < 2 ^ 63) (hl1:l.length < 2 ^ 48∧∀ x∈l,HuW x) (_:fs.length < 2 ^ 48∧∀ x∈fs,(Lit.int .i64 x).wf=true) :
  CPure Tryz.prog 6 [.agg [.int .i64 c.k,.int .i64 c.m,.int .i64 c.sh,.int .i64 c.st,.int .i64 c.sl,SL ts,TR HuC l,IL fs]] (.bool true):=by
 refine CPure.of_sem (k:=1) ?_
 refine CSem.body hm Tryz.func6 rfl (by kernel_rfl) (by kernel_rfl) (by simp [Tryz.ntmps6]) ?_
 have haggC:aggT Tryz.prog 23=some true:=by kernel_rfl
 have hzC:szT Tryz.prog 23=some 5:=by kernel_rfl
 have hel:(elT Tryz.prog 45).isSome=true:=by kernel_rfl
 refine wpc_st (fun r h=>rg r 1 = .ptr 0 0∧h=Heap.empty.alloc [.int .i64 c.k,.int .i64 c.m,.int .i64 c.sh,.int .i64 c.st,.int .i64 c.sl,SL ts,TR HuC l,IL fs]) ?_ (by simp [AV.cells];rfl)
 rintro r _ ⟨r1,rfl⟩
 rw [wpc_seq]
 refine alL rfl r1 (Heap.get_alloc_same _ _) fun r r3 r4 r5 r6=> ?_
 have lp0:(Heap.empty.alloc [.int .i64 c.k,.int .i64 c.m,.int .i64 c.sh,.int .i64 c.st,.int .i64 c.sl,SL ts,TR HuC l,IL fs]).lp=none:=rfl
 generalize (Heap.empty.alloc [.int .i64 c.k,.int .i64 c.m,.int .i64 c.sh,.int .i64 c.st,.int .i64 c.sl,SL ts,TR HuC l,IL fs])=H0 at r3 lp0 ⊢
 have g1:((H0.alloc zC).put H0.next (cC c)).get H0.next=some [.int .i64 c.k,.int .i64 c.m,.int .i64 c.sh,.int .i64 c.st,.int .i64 c.sl]:=Heap.get_put_same (Heap.get_alloc_same _ _)
 have lp1:((H0.alloc zC).put H0.next (cC c)).lp=none:=lp0
 generalize (H0.alloc zC).put H0.next (cC c)=H1 at g1 lp1 ⊢
 generalize H0.next=b at r3 g1
 have hbl:=Heap.get_lt g1
 have hout:∀ (h:Heap) (K:AV→Heap→Prop),K (.bool true) h→Call Tryz.prog 12 [] h K:=out17
 simp [r3,g1,loadX_agg haggC,hzC,takeN]
 refine (rtiny_call c _).use ?_
 by_cases hT:SmL c
 rotate_left
 ·simp [hT]
  refine hout _ _ ?_
  simp
 by_cases hw6:(6:Int) < ts.length
 ·simp [hT,r4,hw6]
  refine hout _ _ ?_
  simp
 by_cases hw12:(12:Int) < l.length
 ·simp [hT,r4,r5,hw6,hw12,lenX_TR hel]
  refine hout _ _ ?_
  simp
 by_cases hwm:c.m < fs.length
 ·simp [hT,r3,r4,r5,r6,hw6,hw12,lenX_TR hel,fieldAddrX,g1,hwm]
  refine hout _ _ ?_
  simp
 simp [hT,r3,r4,r5,r6,hw6,hw12,lenX_TR hel,fieldAddrX,g1,hwm,loadX_agg haggC,hzC,takeN]
 obtain ⟨hC,t1,t2,t3,t4⟩:=hT
 have h0:=conf_sl hC
 refine (made17_sem hC ⟨t1,t3⟩ (ts:=ts) (tv:=SL ts) (by omega) _ (.inl rfl) lp1).then ?_
 rintro _ H2 ⟨p,q,nb,cells,ps,pv,rfl,LH,F2⟩
 have LH:=LH.less (E':=fun x=>x=b) fun x hx=>by rw [hx];exact hbl
 have g2:=(F2 b hbl).trans g1
 obtain ⟨W,s0,s1⟩:=made_ok hC ts ts.length (by omega)
 generalize madeL c ts ts.length=aq at LH W s0 s1
 obtain ⟨a0,sq⟩:=aq
 simp only at LH W s0 s1
 have hLl:((madeM c ts ts.length).length:Int)=c.st:=by rw [madeM_len];omega
 simp [r3,r5,g2,loadX_agg haggC,hzC,takeN]
 refine (hurts_sem LH hC ⟨t1,t3,t4⟩ W.ex (by omega) hl1.2).then ?_
 rintro _ H4 hq
 rcases hq with ⟨n,rfl⟩|⟨a1,X,bdd,rfl,L4,F4,EX4,hbd,hX,hbads,hD⟩
 ·simp
  refine hout _ _ ?_
  simp
 have g4:=(F4 b rfl).trans g2
 clear LH g2 F2 g1 lp1
 obtain ⟨e1,e2,EX5,hl5⟩:=EX4.found (by omega) hbd hX hbads
 simp
 refine (L4.all hC (by decide)).then ?_
 rintro _ H5 ⟨rfl,L5,F5⟩
 have W5:=EX5.wh
 have L5:=L5.mono (L5.q.qt W5.v.qt)
 generalize (scAllR a1 7 c).ar=a2 at L5 EX5 hl5 W5
 have g5:=(F5 b rfl).trans g4
 have hlen5:=W5.len
 simp
 refine wpc_loop (FaI p q nb cells ps pv b c sq (madeM c ts ts.length) ts fs a2.disks.length) (fs.length - ·) ?_ 0 ?_
 rotate_left
 ·exact ⟨by omega,by simpa using r3,by simpa using r4,by simpa using r6,by simp,by simp,by simp,g5,a2,L5,W5.v,rfl,by rw [aliveL_all W5.al];omega⟩
 clear L5 g5 F5 L4 g4 F4 EX4 W5 EX5 r3 r4 r5 r6
 rintro i r hp ⟨le,r3,r4,r6,r7,r8,r11,gc,a,H,V,hDa,hal⟩
 rcases Nat.lt_or_eq_of_le le with hlt|heq
 ·have hlt':(i:Int) < fs.length:=by omega
  have hw1:IntKind.i64.wrap ((i:Int)+1)=(i:Int)+1:=wrap64 (by omega) (by omega)
  simp [r6,r7,r11,hlt,hlt']
  refine (H.fail fs[i]).then ?_
  rintro _ h2 ⟨rfl,L2,F2⟩
  obtain ⟨d1,d2,d3⟩:=V.drop fs[i]
  simp [r11,hw1]
  exact ⟨i+1,by omega,by omega,by simpa using r3,by simpa using r4,by simpa using r6,by simpa using r7,by simpa using r8,by simp,(F2 b rfl).trans gc,_,L2,d1,by omega,by omega⟩
 subst heq
 simp [r6,r11,r3,gc,loadX_agg haggC,hzC,takeN]
 refine (H.mnew hC).then ?_
 rintro _ H3 ⟨pm,bl,bb,rfl,L3,M3,F3,hne⟩
 obtain ⟨n1,n2,n3⟩:=hne b rfl
 have g3:=(F3 b rfl).trans gc
 generalize List.replicate (c.k+c.m).toNat false=bd at M3
 simp
 refine wpc_loop (MwL p q nb cells ps pv pm bl bb b c a sq ts bd) (ts.length - ·) ?_ 0 ?_
 rotate_left
 ·exact ⟨by omega,by simpa using r3,by simpa using r4,by simpa using r8,by simp,by simp,g3,L3,M3⟩
 clear L3 M3 F3 g3 gc H r3 r4 r6 r7 r8 r11
 rintro i r hp ⟨le,r3,r4,r8,r12,r13,gc,H,M⟩
 rcases Nat.lt_or_eq_of_le le with hlt|heq
 ·have hlt':(i:Int) < ts.length:=by omega
  have hw1:IntKind.i64.wrap ((i:Int)+1)=(i:Int)+1:=wrap64 (by omega) (by omega)
  simp [r4,r12,r13,hlt,hlt']
  refine (H.mw M (.inr (.inr (.inl rfl))) (by rw [madeM_len];omega) i ts[i]).then ?_
  rintro _ h2 ⟨rfl,H2,M2,F2⟩
  simp [r13,hw1]
  refine ⟨i+1,by omega,by omega,by simpa using r3,by simpa using r4,by simpa using r8,by simpa using r12,by simp,(F2 b n2).trans gc,H2,?_⟩
  have hti:ts[i]?.getD []=ts[i]:=by simp [hlt]
  rw [madeM,hti]
  exact M2
 subst heq
 generalize madeM c ts ts.length=L at V M hLl
 simp [r4,r13]
 refine wpc_loop (RdL p q nb cells ps pv pm bl bb b c a sq L bd) (L.length - ·) ?_ 0 ?_
 rotate_left
 ·exact ⟨by omega,by simpa using r3,by simpa using r8,by simpa using r12,by simp,gc,H,M⟩
 clear H M gc r3 r4 r8 r12 r13
 rintro i r hp ⟨le,r3,r8,r12,r14,gc,H,M⟩
 rcases Nat.lt_or_eq_of_le le with hlt|heq
 ·have hlt':(i:Int) < c.st:=by omega
  have hw1:IntKind.i64.wrap ((i:Int)+1)=(i:Int)+1:=wrap64 (by omega) (by omega)
  have gm:=M.gm
  have gl:=M.gl
  simp only [mdC] at gm
  simp [r3,r8,r14,fieldAddrX,gc,hlt']
  refine (H.read hC (by decide) i).use ?_
  have hti:L[i]?.getD []=L[i]:=by simp [hlt]
  rw [V.lost (by omega),if_pos (by omega),hti]
  simp [r12,r14,fieldAddrX,gm,gl,hlt,hw1]
  exact ⟨i+1,by omega,by omega,by simpa using r3,by simpa using r8,by simpa using r12,by simp,gc,H,M⟩
 ·have hge:¬((i:Int) < c.st):=by omega
  simp [r3,r14,fieldAddrX,gc,hge]
  refine hout _ _ ?_
  simp
end Go.Proofs.YtngbipjclpncoaaGreatDoor.X
