/-
  RebuildWrites.
-/
import Derived.Test.YtngbipjclpncoaaGreatDoorV85
namespace Go.Proofs.YtngbipjclpncoaaGreatDoor.X
open Go.RowKit F
set_option maxRecDepth 100000
set_option linter.unusedSimpArgs false
set_option linter.unusedVariables false
def alRV (c:Cfg) (u1:List Txt) (u2:Int) (u3:List Txt) (q:Nat):Nat→AV→Prop
 | 0,v=>v = .ptr 0 0
 | 1,v=>v=CfA c
 | 2,v=>v = .ptr 0 5
 | 3,v=>v=(SL u1)
 | 4,v=>v = .ptr 0 6
 | 5,v=>v=(.int .i64 u2)
 | 6,v=>v = .ptr 0 7
 | 7,v=>v=(SL u3)
 | 8,v=>v = .ptr q 0
 | 10,v=>v=(SL u1)
 | 11,v=>v=(.int .i64 u2)
 | 12,v=>v=(SL u3)
 | _,v=>True
theorem alR {cd:Code} (hc:(Tryz.f10.body).bind (findR 1)=some cd) {r:Regs} {H:Heap} {Q:Out→Regs→Heap→Prop} {c:Cfg} {u1:List Txt} {u2:Int} {u3:List Txt} (r1:rg r 1 = .ptr 0 0)
  (g0:H.get 0=some [.int .i64 c.k,.int .i64 c.m,.int .i64 c.sh,.int .i64 c.st,.int .i64 c.sl,(SL u1),(.int .i64 u2),(SL u3)])
  (hQ:∀ r':Regs,rg r' 3 = .ptr H.next 0→rg r' 4=(SL u1)→rg r' 5=(.int .i64 u2)→rg r' 6=(SL u3)→Q .norm r' ((H.alloc zC).put H.next (cC c))):wpc Tryz.prog cd Q r H:=by
 simp [Tryz.f10,findR] at hc
 subst hc
 have haggC:aggT Tryz.prog 23=some true:=by kernel_rfl
 have hzC:szT Tryz.prog 23=some 5:=by kernel_rfl
 have hzz:zeroAV Tryz.prog 23=some (.agg zC):=by kernel_rfl
 have hcl:(AV.agg zC).cells=zC:=rfl
 have hcc:(CfA c).cells=cC c:=rfl
 refine wpc_ordJ (fun L _ h=>h=Al1H H c (L 8) (L 9)) (alRV c u1 u2 u3 H.next) (by kernel_rfl) rfl ?_ ?_
 ·intro L r2 H1 hH cl hr
  have q1:rg r2 1 = .ptr 0 0:=(ordReg0 hr (by kernel_rfl)).trans r1
  have e1:Ext H (H.alloc zC):=(Ext.refl H).alloc _
  have e2:Ext H ((H.alloc zC).put H.next (cC c)):=e1.put (Nat.le_refl _) _
  have g1:H1.get 0=some [.int .i64 c.k,.int .i64 c.m,.int .i64 c.sh,.int .i64 c.st,.int .i64 c.sl,(SL u1),(.int .i64 u2),(SL u3)]:=by
   rw [hH]
   unfold Al1H
   split
   ·exact e2.got g0
   ·split
    ·exact e1.got g0
    ·exact g0
  refine ⟨?_,?_,?_,?_,?_,?_,?_,?_,?_,?_,?_,?_,?_,trivial⟩
  all_goals (intro hL hd;simp [DepL,VL,alRV,Region.binds] at hd)
  ·simp [q1,fieldAddrX,g1,alRV];exact ⟨_,rfl,rfl,hH⟩
  ·simp [hd,g1,loadX_agg haggC,hzC,takeN,alRV,CfA];exact ⟨_,rfl,rfl,hH⟩
  ·simp [q1,fieldAddrX,g1,alRV];exact ⟨_,rfl,rfl,hH⟩
  ·simp [hd,g1,alRV];exact ⟨_,rfl,rfl,hH⟩
  ·simp [q1,fieldAddrX,g1,alRV];exact ⟨_,rfl,rfl,hH⟩
  ·simp [hd,g1,alRV];exact ⟨_,rfl,rfl,hH⟩
  ·simp [q1,fieldAddrX,g1,alRV];exact ⟨_,rfl,rfl,hH⟩
  ·simp [hd,g1,alRV];exact ⟨_,rfl,rfl,hH⟩
  ·have h9:=cl 9 8 (by kernel_rfl) hL
   have e:H1=H:=by rw [hH];unfold Al1H;simp [h9,show L 8=false from hL]
   subst e
   simp [hzz,zC,AV.cells,alRV,Al1H,h9]
  ·have l9:L 9=false:=hL
   have l8:L 8=true:=by simp [hd]
   have e:H1=H.alloc zC:=by rw [hH];unfold Al1H;simp [l9,l8]
   subst e
   simp [hd,storeX_agg,hzC,putN,Heap.get_alloc_same,Al1H,CfA,cC,zC]
  ·simp [hd,alRV];exact ⟨_,rfl,rfl,by simpa [hd] using hH⟩
  ·simp [hd,alRV];exact ⟨_,rfl,rfl,by simpa [hd] using hH⟩
  ·simp [hd,alRV];exact ⟨_,rfl,rfl,by simpa [hd] using hH⟩
 ·intro L r2 H1 hall hH hr hA
  have e:H1=(H.alloc zC).put H.next (cC c):=by rw [hH];unfold Al1H;simp [hall 9 (by decide)]
  subst e
  obtain ⟨_,_,_,_,_,_,_,_,h8,_,h10,h11,h12,_⟩:=hA
  simp [VL,alRV] at h8 h10 h11 h12
  exact hQ r2 h8 h10 h11 h12
def RwV (pv pm:Nat) (ws:List Txt) (n:Int) (i:Nat) (t:Txt) (e1 e2:Int):Nat→AV→Prop
 | 0,v=>v = .ptr pv 0
 | 1,v=>v = .int .i64 n
 | 2,v=>v=SL ws
 | 3,v=>v = .int .i64 i
 | 4,v=>v = .ipt ((ws.map S).drop i)
 | 5,v=>v=S t
 | 6,v=>v = .int .i64 e1
 | 7,v=>v = .ptr pm 0
 | 8,v=>v = .int .i64 n
 | 9,v=>v=SL ws
 | 10,v=>v = .int .i64 i
 | 11,v=>v = .ipt ((ws.map S).drop i)
 | 12,v=>v=S t
 | 13,v=>v = .int .i64 e2
 | 14,v=>v = .bool (decide (e1≠e2))
 | _,v=>True
section
variable {p q nb:Nat} {cells:List AV} {ps:List Nat} {pv pm bl bb:Nat} {c:Cfg} {k:Nat} {a:Arr} {sq:Int} {E:Nat→Prop} {hp:Heap} {L:List Txt} {bd:List Bool}
theorem rw19 {cd:Code} (hc:(Tryz.f10.body).bind (findR 19)=some cd) {r:Regs} {Q:Out→Regs→Heap→Prop} {ws:List Txt} {n:Int} {i:Nat} (hi:i < ws.length)
  (r6:rg r 6=SL ws) (r8:rg r 8 = .ptr pv 0) (r9:rg r 9 = .ptr pm 0) (r13:rg r 13 = .int .i64 i) (r14:rg r 14 = .int .i64 n)
  (H:LawV p q nb cells ps pv c 0 a sq E hp) (M:MdA pm bl bb c L bd hp) (hE:E pm∧E bl∧E bb) (hC:ConfP c) (hs0:0≤sq) (hs1:sq < 2 ^ 61) (hll:(L.length:Int)=c.st)
  (hQ:∀ r' h',(∀ d,d < 100→rg r' d=rg r d)→rg r' 117 = .bool (decide ((vwriteR a 7 c sq n ws[i]).2.2≠mWrE c n ws[i]))→LawV p q nb cells ps pv c (2 * a.disks.length) (vwriteR a 7 c sq n ws[i]).1 (vwriteR a 7 c sq n ws[i]).2.1 E h'→MdA pm bl bb c (mWr c L n ws[i]) bd h'→(∀ x,E x→x≠bl→h'.get x=hp.get x)→Q .norm r' h'):wpc Tryz.prog cd Q r hp:=by
 simp [Tryz.f10,findR] at hc
 subst hc
 have hi':(i:Int) < ws.length:=by omega
 have hdr:((ws.map S).drop i)[0]? = some (S ws[i]):=by simp [hi]
 refine wpc_ordJ (fun D _ h=>LawV p q nb cells ps pv c (bf2 (D 6) (2 * a.disks.length) 0) (bf2 (D 6) (vwriteR a 7 c sq n ws[i]).1 a) (bf2 (D 6) (vwriteR a 7 c sq n ws[i]).2.1 sq) E h∧MdA pm bl bb c (bf2 (D 13) (mWr c L n ws[i]) L) bd h∧∀ x,E x→x≠bl→h.get x=hp.get x)
  (RwV pv pm ws n i ws[i] (vwriteR a 7 c sq n ws[i]).2.2 (mWrE c n ws[i])) (by kernel_rfl) ⟨H,M,fun _ _ _=>rfl⟩ ?_ ?_
 ·intro D r2 H1 hH cl hr
  have q6:rg r2 6=SL ws:=(ordReg0 hr (by kernel_rfl)).trans r6
  have q8:rg r2 8 = .ptr pv 0:=(ordReg0 hr (by kernel_rfl)).trans r8
  have q9:rg r2 9 = .ptr pm 0:=(ordReg0 hr (by kernel_rfl)).trans r9
  have q13:rg r2 13 = .int .i64 i:=(ordReg0 hr (by kernel_rfl)).trans r13
  have q14:rg r2 14 = .int .i64 n:=(ordReg0 hr (by kernel_rfl)).trans r14
  obtain ⟨HL,HM,HF⟩:=hH
  refine ⟨?_,?_,?_,?_,?_,?_,?_,?_,?_,?_,?_,?_,?_,?_,?_,trivial⟩
  all_goals (intro hL hd;simp [DepL,VL,RwV,Region.binds] at hd)
  ·simp [q8,RwV];exact ⟨_,rfl,rfl,HL,HM,HF⟩
  ·simp [q14,RwV];exact ⟨_,rfl,rfl,HL,HM,HF⟩
  ·simp [q6,RwV];exact ⟨_,rfl,rfl,HL,HM,HF⟩
  ·simp [q13,RwV];exact ⟨_,rfl,rfl,HL,HM,HF⟩
  ·simp [hd,hi,hi',RwV];exact ⟨_,rfl,rfl,HL,HM,HF⟩
  ·simp [hd,hdr,hi,RwV];exact ⟨_,rfl,rfl,HL,HM,HF⟩
  ·have l6:D 6=false:=hL
   rw [l6] at HL
   simp [hd]
   refine (HL.write hC (by simp [bf2]) hs0 hs1 n ws[i]).then ?_
   rintro _ h2 ⟨rfl,HL2,F2⟩
   exact ⟨_,rfl,by simp [RwV,bf2],by simpa [bf2] using HL2,by simpa using HM.fr F2 hE.1 hE.2.1 hE.2.2,fun x hx hn=>(F2 x hx).trans (HF x hx hn)⟩
  ·simp [q9,RwV];exact ⟨_,rfl,rfl,HL,HM,HF⟩
  ·simp [q14,RwV];exact ⟨_,rfl,rfl,HL,HM,HF⟩
  ·simp [q6,RwV];exact ⟨_,rfl,rfl,HL,HM,HF⟩
  ·simp [q13,RwV];exact ⟨_,rfl,rfl,HL,HM,HF⟩
  ·simp [hd,hi,hi',RwV];exact ⟨_,rfl,rfl,HL,HM,HF⟩
  ·simp [hd,hdr,hi,RwV];exact ⟨_,rfl,rfl,HL,HM,HF⟩
  ·have l13:D 13=false:=hL
   rw [l13] at HM
   simp [hd]
   refine (HL.mw HM hE.2.1 hll n ws[i]).then ?_
   rintro _ h2 ⟨rfl,HL2,HM2,F2⟩
   exact ⟨_,rfl,by simp [RwV],by simpa [hd] using HL2,by simpa [bf2] using HM2,fun x hx hn=>(F2 x hn).trans (HF x hx hn)⟩
  ·simp [hd,RwV];exact ⟨_,rfl,rfl,by simpa [hd] using HL,by simpa [hd] using HM,HF⟩
 ·intro D r2 H1 hall hH hr hA
  obtain ⟨HL,HM,HF⟩:=hH
  rw [hall 6 (by decide)] at HL
  rw [hall 13 (by decide)] at HM
  obtain ⟨_,_,_,_,_,_,_,_,_,_,_,_,_,_,h14,_⟩:=hA
  simp [VL,RwV] at h14
  exact hQ r2 H1 (fun d hd=>hr d (by simp;omega)) (by simpa using h14) (by simpa [bf2] using HL) (by simpa [bf2] using HM) HF
end
structure MwR (p q nb:Nat) (cells:List AV) (ps:List Nat) (pv pm bl bb b:Nat) (c:Cfg) (a:Arr) (sq:Int) (ts ws:List Txt) (d:Int) (bd:List Bool) (i:Nat) (r:Regs) (hp:Heap):Prop where
 le:i≤ts.length
 r3:rg r 3 = .ptr b 0
 r4:rg r 4=SL ts
 r5:rg r 5 = .int .i64 d
 r6:rg r 6=SL ws
 r7:rg r 7 = .ptr p 0
 r8:rg r 8 = .ptr pv 0
 r9:rg r 9 = .ptr pm 0
 r10:rg r 10 = .int .i64 i
 gc:hp.get b=some [.int .i64 c.k,.int .i64 c.m,.int .i64 c.sh,.int .i64 c.st,.int .i64 c.sl]
 H:LawV p q nb cells ps pv c 0 a sq (EM b pm bl bb) hp
 M:MdA pm bl bb c (madeM c ts i) bd hp
structure WrR (p q nb:Nat) (cells:List AV) (ps:List Nat) (pv pm bl bb b br:Nat) (c:Cfg) (ws:List Txt) (d:Nat) (bd:List Bool) (i:Nat) (r:Regs) (hp:Heap):Prop where
 le:i≤ws.length
 r3:rg r 3 = .ptr b 0
 r6:rg r 6=SL ws
 r8:rg r 8 = .ptr pv 0
 r9:rg r 9 = .ptr pm 0
 r11:rg r 11 = .ptr br 0
 r13:rg r 13 = .int .i64 i
 gc:hp.get b=some [.int .i64 c.k,.int .i64 c.m,.int .i64 c.sh,.int .i64 c.st,.int .i64 c.sl]
 ex:∃ (a:Arr) (n:Nat) (sq:Int) (L:List Txt),LawV p q nb cells ps pv c 0 a sq (fun x=>EM b pm bl bb x∨x=br) hp∧RB c a sq L d n∧hp.get br=some (rbC pv n)∧MdA pm bl bb c L bd hp∧0≤sq∧sq≤6+i
structure RdR (p q nb:Nat) (cells:List AV) (ps:List Nat) (pv pm bl bb b:Nat) (c:Cfg) (a:Arr) (sq:Int) (L:List Txt) (bd:List Bool) (E:Nat→Prop) (i:Nat) (r:Regs) (hp:Heap):Prop where
 le:i≤L.length
 r3:rg r 3 = .ptr b 0
 r8:rg r 8 = .ptr pv 0
 r9:rg r 9 = .ptr pm 0
 r19:rg r 19 = .int .i64 i
 gc:hp.get b=some [.int .i64 c.k,.int .i64 c.m,.int .i64 c.sh,.int .i64 c.st,.int .i64 c.sl]
 H:LawV p q nb cells ps pv c 0 a sq E hp
 M:MdA pm bl bb c L bd hp
theorem rebuildWrites_pure (c:Cfg) (ts:List Txt) (d:Int) (ws:List Txt) (_:CfW c) (_:ts.length < 2 ^ 48∧∀ x∈ts,x.length < 2 ^ 63) (hdw:(Lit.int .i64 d).wf=true) (_:ws.length < 2 ^ 48∧∀ x∈ws,x.length < 2 ^ 63) :
  CPure Tryz.prog 10 [.agg [.int .i64 c.k,.int .i64 c.m,.int .i64 c.sh,.int .i64 c.st,.int .i64 c.sl,SL ts,.int .i64 d,SL ws]] (.bool true):=by
 refine CPure.of_sem (k:=1) ?_
 refine CSem.body hm Tryz.func10 rfl (by kernel_rfl) (by kernel_rfl) (by simp [Tryz.ntmps10]) ?_
 have haggC:aggT Tryz.prog 23=some true:=by kernel_rfl
 have hzC:szT Tryz.prog 23=some 5:=by kernel_rfl
 refine wpc_st (fun r h=>rg r 1 = .ptr 0 0∧h=Heap.empty.alloc [.int .i64 c.k,.int .i64 c.m,.int .i64 c.sh,.int .i64 c.st,.int .i64 c.sl,SL ts,.int .i64 d,SL ws]) ?_ (by simp [AV.cells])
 rintro r _ ⟨r1,rfl⟩
 rw [wpc_seq]
 refine alR rfl r1 (Heap.get_alloc_same _ _) fun r r3 r4 r5 r6=> ?_
 have lp0:(Heap.empty.alloc [.int .i64 c.k,.int .i64 c.m,.int .i64 c.sh,.int .i64 c.st,.int .i64 c.sl,SL ts,.int .i64 d,SL ws]).lp=none:=rfl
 generalize (Heap.empty.alloc [.int .i64 c.k,.int .i64 c.m,.int .i64 c.sh,.int .i64 c.st,.int .i64 c.sl,SL ts,.int .i64 d,SL ws])=H0 at r3 lp0 ⊢
 have g1:((H0.alloc zC).put H0.next (cC c)).get H0.next=some [.int .i64 c.k,.int .i64 c.m,.int .i64 c.sh,.int .i64 c.st,.int .i64 c.sl]:=Heap.get_put_same (Heap.get_alloc_same _ _)
 have lp1:((H0.alloc zC).put H0.next (cC c)).lp=none:=lp0
 generalize (H0.alloc zC).put H0.next (cC c)=H1 at g1 lp1 ⊢
 generalize H0.next=b at r3 g1
 have hbl:=Heap.get_lt g1
 have hout:∀ (h:Heap) (K:AV→Heap→Prop),K (.bool true) h→Call Tryz.prog 24 [] h K:=out18
 simp [r3,g1,loadX_agg haggC,hzC,takeN]
 refine (rtiny_call c _).use ?_
 by_cases hT:SmL c
 rotate_left
 ·simp [hT]
  refine hout _ _ ?_
  simp
 by_cases hw6:(6:Int) < ts.length
 ·simp [hT,r4,hw6]
  refine hout _ _ ?_
  simp
 by_cases hww:(6:Int) < ws.length
 ·simp [hT,r4,r6,hw6,hww]
  refine hout _ _ ?_
  simp
 by_cases d0:d < 0
 ·simp [hT,r4,r5,r6,hw6,hww,d0]
  refine hout _ _ ?_
  simp
 have hkm:IntKind.i64.wrap (c.k+c.m)=c.k+c.m:=by
  have:=conf_sl hT.1
  have:=hT.2.1
  exact wrap64 (by omega) (by omega)
 by_cases d1:c.k+c.m≤d
 ·simp [hT,r3,r4,r5,r6,hw6,hww,d0,fieldAddrX,g1,hkm,d1]
  refine hout _ _ ?_
  simp
 simp [hT,r3,r4,r5,r6,hw6,hww,d0,fieldAddrX,g1,hkm,d1,loadX_agg haggC,hzC,takeN]
 obtain ⟨hC,t1,t2,t3,t4⟩:=hT
 have h0:=conf_sl hC
 have hst:1≤c.st:=hC.2.2.2.1.1
 refine (made18_sem hC ⟨t1,t3⟩ (ts:=ts) (tv:=SL ts) (by omega) _ (.inl rfl) lp1).then ?_
 rintro _ H2 ⟨p,q,nb,cells,ps,pv,rfl,LH,F2⟩
 have LH:=LH.less (E':=fun x=>x=b) fun x hx=>by rw [hx];exact hbl
 have g2:=(F2 b hbl).trans g1
 obtain ⟨W,s0,s1⟩:=made_ok hC ts ts.length (by omega)
 generalize madeL c ts ts.length=aq at LH W s0 s1
 obtain ⟨a0,sq⟩:=aq
 simp only at LH W s0 s1
 have hLl:((madeM c ts ts.length).length:Int)=c.st:=by rw [madeM_len];omega
 have hD:(a0.disks.length:Int)=c.k+c.m:=LH.len
 simp [r3,g2,loadX_agg haggC,hzC,takeN]
 refine (LH.mnew hC).then ?_
 rintro _ H3 ⟨pm,bl,bb,rfl,L3,M3,F3,hne3⟩
 obtain ⟨n1,n2,n3⟩:=hne3 b rfl
 have g3:=(F3 b rfl).trans g2
 generalize List.replicate (c.k+c.m).toNat false=bd at M3
 simp
 refine wpc_loop (MwR p q nb cells ps pv pm bl bb b c a0 sq ts ws d bd) (ts.length - ·) ?_ 0 ?_
 rotate_left
 ·exact ⟨by omega,by simpa using r3,by simpa using r4,by simpa using r5,by simpa using r6,by simp,by simp,by simp,by simp,g3,L3,M3⟩
 clear L3 M3 F3 g3 LH g2 F2 g1 lp1 r3 r4 r5 r6
 rintro i r hp ⟨le,r3,r4,r5,r6,r7,r8,r9,r10,gc,H,M⟩
 rcases Nat.lt_or_eq_of_le le with hlt|heq
 ·have hlt':(i:Int) < ts.length:=by omega
  have hw1:IntKind.i64.wrap ((i:Int)+1)=(i:Int)+1:=wrap64 (by omega) (by omega)
  simp [r4,r9,r10,hlt,hlt']
  refine (H.mw M (.inr (.inr (.inl rfl))) (by rw [madeM_len];omega) i ts[i]).then ?_
  rintro _ h2 ⟨rfl,H2,M2,F2⟩
  simp [r10,hw1]
  refine ⟨i+1,by omega,by omega,by simpa using r3,by simpa using r4,by simpa using r5,by simpa using r6,by simpa using r7,by simpa using r8,by simpa using r9,by simp,(F2 b n2).trans gc,H2,?_⟩
  have hti:ts[i]?.getD []=ts[i]:=by simp [hlt]
  rw [madeM,hti]
  exact M2
 subst heq
 generalize madeM c ts ts.length=L0 at W M hLl
 obtain ⟨dd,rfl⟩:=Int.eq_ofNat_of_zero_le (show 0≤d by omega)
 obtain ⟨R0,R0l⟩:=W.rb (d:=dd) (by omega)
 simp [r4,r5,r7,r8,r10]
 refine (H.rstart W.v.dn dd).then ?_
 rintro _ H4 ⟨_,q2⟩
 obtain ⟨br,rfl,L4,g4,F4,hne⟩:=q2 (by omega)
 have nb0:=hne b (.inl rfl)
 have nb1:=hne pm (.inr (.inl rfl))
 have nb2:=hne bl (.inr (.inr (.inl rfl)))
 have nb3:=hne bb (.inr (.inr (.inr rfl)))
 have k4:=(F4 b (.inl rfl)).trans gc
 have M4:=M.fr F4 (.inr (.inl rfl)) (.inr (.inr (.inl rfl))) (.inr (.inr (.inr rfl)))
 simp
 refine wpc_loop (WrR p q nb cells ps pv pm bl bb b br c ws dd bd) (ws.length - ·) ?_ 0 ?_
 rotate_left
 ·exact ⟨by omega,by simpa using r3,by simpa using r6,by simpa using r8,by simpa using r9,by simp,by simp,k4,_,0,sq,L0,L4,R0,g4,M4,s0,by omega⟩
 clear L4 g4 F4 k4 M4 H M gc R0 R0l W hLl r3 r4 r5 r6 r7 r8 r9 r10
 rintro i r hp ⟨le,r3,r6,r8,r9,r11,r13,gc,a,n,sq,L,H,R,gb,M,s0,s1⟩
 have hll:=R.m.ll
 have Rle:=R.le
 rcases Nat.lt_or_eq_of_le le with hlt|heq
 ·have hlt':(i:Int) < ws.length:=by omega
  have hw1:IntKind.i64.wrap ((i:Int)+1)=(i:Int)+1:=wrap64 (by omega) (by omega)
  have hrem:intX .rem .i64 (i:Int) c.st=some (.int .i64 ((i:Int) % c.st)):=by
   rw [intX_rem (by omega),Int.tmod_eq_emod_of_nonneg (by omega)]
  rw [wpc_seq]
  refine wpc_cut (fun r' h'=>(∀ t,t < 14→rg r' t=rg r t)∧hp=h') ?_ ?_
  ·simp [r6,r13,hlt']
   intro t ht
   repeat rw [if_neg (by omega)]
  rintro r' _ ⟨old,rfl⟩
  rw [Then_norm,wpc_seq,wpc_block]
  have q3:=(old 3 (by decide)).trans r3
  have q13:=(old 13 (by decide)).trans r13
  refine wpc_st (fun r'' h'=>(∀ t,t < 14→rg r'' t=rg r t)∧rg r'' 14 = .int .i64 ((i:Int) % c.st)∧hp=h') ?_ ?_
  rotate_left
  ·simp [q3,q13,fieldAddrX,gc,hrem]
   intro t ht
   repeat rw [if_neg (by omega)]
   exact old t ht
  clear old q3 q13
  rintro r' _ ⟨old,q14,rfl⟩
  rw [wpc_seq,wpc_seq]
  refine rw19 rfl hlt ((old 6 (by decide)).trans r6) ((old 8 (by decide)).trans r8) ((old 9 (by decide)).trans r9) ((old 13 (by decide)).trans r13) q14 H M ⟨.inl (.inr (.inl rfl)),.inl (.inr (.inr (.inl rfl))),.inl (.inr (.inr (.inr rfl)))⟩ hC s0 (by omega) hll fun r2 h2 o2 k117 H2 M2 F2=> ?_
  obtain ⟨w1,w2,w3⟩:=R.write (by omega) ((i:Int) % c.st) ws[i]
  rw [w1] at k117
  have H2:=H2.mono (H2.q.qt w3.qt)
  have hsq:(vwriteR a 7 c sq ((i:Int) % c.st) ws[i]).2.1≤sq+1∧0≤(vwriteR a 7 c sq ((i:Int) % c.st) ws[i]).2.1:=by rw [w2];split<;>omega
  generalize (vwriteR a 7 c sq ((i:Int) % c.st) ws[i]).2.1=sq' at H2 w3 hsq
  generalize (vwriteR a 7 c sq ((i:Int) % c.st) ws[i]).1=a' at H2 w3
  have o3:∀ t,t < 14→rg r2 t=rg r t:=fun t ht=>(o2 t (by omega)).trans (old t ht)
  have gc2:=(F2 b (.inl (.inl rfl)) n2).trans gc
  have gb2:=(F2 br (.inr rfl) (Ne.symm nb2)).trans gb
  have p11:=(o3 11 (by decide)).trans r11
  have p13:=(o3 13 (by decide)).trans r13
  simp [k117,p11]
  refine (H2.rstep hC (by decide) (.inr rfl) gb2 1).then ?_
  rintro _ h3 ⟨rfl,H3,g3,F3⟩
  obtain ⟨n',e1,e2,e3,e4,R'⟩:=w3.rst hC (by omega) 1
  rw [e1] at g3
  have H3:=H3.mono (H3.q.qt R'.qt)
  generalize (stepR a' 7 c n 1).ar=a'' at H3 R'
  simp [p13,hw1]
  exact ⟨i+1,by omega,by omega,by simpa using (o3 3 (by decide)).trans r3,by simpa using (o3 6 (by decide)).trans r6,by simpa using (o3 8 (by decide)).trans r8,by simpa using (o3 9 (by decide)).trans r9,by simpa using p11,by simp,(F3 b ⟨.inl (.inl rfl),nb0⟩).trans gc2,a'',n',sq',_,H3,R',g3,⟨(F3 pm ⟨.inl (.inr (.inl rfl)),nb1⟩).trans M2.gm,(F3 bl ⟨.inl (.inr (.inr (.inl rfl))),nb2⟩).trans M2.gl,(F3 bb ⟨.inl (.inr (.inr (.inr rfl))),nb3⟩).trans M2.gb,M2.n1,M2.n2,M2.n3⟩,hsq.2,by omega⟩
 subst heq
 simp [r3,r6,r11,r13,fieldAddrX,gc]
 refine (H.rstep hC (by decide) (.inr rfl) gb c.st).then ?_
 rintro _ H5 ⟨rfl,L5,g5,F5⟩
 obtain ⟨n',e1,e2,e3,e4,R'⟩:=R.rst hC (by omega) c.st
 have hn':(n':Int)=c.st:=by
  unfold lefS at e4
  rw [if_pos hst] at e4
  omega
 have W5:=R'.wh hst hn'
 have hlen5:=W5.len
 rw [e2,e3]
 have L5:=L5.mono (L5.q.qt R'.qt)
 have gc5:=(F5 b ⟨.inl (.inl rfl),nb0⟩).trans gc
 have M5:MdA pm bl bb c L bd H5:=⟨(F5 pm ⟨.inl (.inr (.inl rfl)),nb1⟩).trans M.gm,(F5 bl ⟨.inl (.inr (.inr (.inl rfl))),nb2⟩).trans M.gl,(F5 bb ⟨.inl (.inr (.inr (.inr rfl))),nb3⟩).trans M.gb,M.n1,M.n2,M.n3⟩
 generalize (stepR a 7 c n c.st).ar=a' at L5 R' W5 hlen5
 have hsd:=W5.fl.stands t1 hst (by omega)
 have hbd:=W5.v.lbd (by omega) hst
 rw [if_pos (by omega)] at hsd
 simp [hst,hn',r8]
 refine (L5.stands hC (by decide) hbd).use ?_
 rw [hsd]
 simp [r3,fieldAddrX,gc5]
 refine wpc_loop (RdR p q nb cells ps pv pm bl bb b c a' sq L bd (fun x=>EM b pm bl bb x∨x=br)) (L.length - ·) ?_ 0 ?_
 rotate_left
 ·exact ⟨by omega,by simpa using r3,by simpa using r8,by simpa using r9,by simp,gc5,L5,M5⟩
 clear L5 M5 gc5 H M gc r3 r6 r8 r9 r11 r13
 rintro i r hp ⟨le,r3,r8,r9,r19,gc,H,M⟩
 rcases Nat.lt_or_eq_of_le le with hlt|heq
 ·have hlt':(i:Int) < c.st:=by omega
  have hw1:IntKind.i64.wrap ((i:Int)+1)=(i:Int)+1:=wrap64 (by omega) (by omega)
  have gm:=M.gm
  have gl:=M.gl
  simp only [mdC] at gm
  simp [r3,r8,r19,fieldAddrX,gc,hlt']
  refine (H.read hC (by decide) i).use ?_
  rw [W5.v.read W5.gd i,mRd_at hll hlt]
  simp [r9,r19,fieldAddrX,gm,gl,hlt,hw1]
  exact ⟨i+1,by omega,by omega,by simpa using r3,by simpa using r8,by simpa using r9,by simp,gc,H,M⟩
 ·have hge:¬((i:Int) < c.st):=by omega
  simp [r3,r19,fieldAddrX,gc,hge]
  refine hout _ _ ?_
  simp
end Go.Proofs.YtngbipjclpncoaaGreatDoor.X
