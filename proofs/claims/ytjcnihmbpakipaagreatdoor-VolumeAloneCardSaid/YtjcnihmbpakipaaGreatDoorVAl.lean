/-
  VolumeAlone.
-/
import Derived.Test.YtjcnihmbpakipaaGreatDoorVG
namespace Go.Proofs.YtjcnihmbpakipaaGreatDoor.X
open Go.RowKit F
set_option maxRecDepth 100000
set_option linter.unusedSimpArgs false
set_option linter.unusedVariables false
def zC:List AV:=[.int .i64 0,.int .i64 0,.int .i64 0,.int .i64 0,.int .i64 0]
def cC (c:Cfg):List AV:=[.int .i64 c.k,.int .i64 c.m,.int .i64 c.sh,.int .i64 c.st,.int .i64 c.sl]
def Al1H (H:Heap) (c:Cfg) (b8 b9:Bool):Heap:=if b9 then (H.alloc zC).put H.next (cC c) else if b8 then H.alloc zC else H
def Al1V (c:Cfg) (n m:Int) (s:Txt) (q:Nat):Nat→AV→Prop
 | 0,v=>v = .ptr 0 0
 | 1,v=>v=CfA c
 | 2,v=>v = .ptr 0 5
 | 3,v=>v = .int .i64 n
 | 4,v=>v = .ptr 0 6
 | 5,v=>v = .int .i64 m
 | 6,v=>v = .ptr 0 7
 | 7,v=>v=S s
 | 8,v=>v = .ptr q 0
 | 10,v=>v = .int .i64 n
 | 11,v=>v = .int .i64 m
 | 12,v=>v=S s
 | _,v=>True
theorem al1 {cd:Code} (hc:(Tryz.f3.body).bind (findR 1)=some cd) {r:Regs} {H:Heap} {Q:Out→Regs→Heap→Prop} {c:Cfg} {n m:Int} {s:Txt} (r1:rg r 1 = .ptr 0 0)
  (g0:H.get 0=some [.int .i64 c.k,.int .i64 c.m,.int .i64 c.sh,.int .i64 c.st,.int .i64 c.sl,.int .i64 n,.int .i64 m,S s])
  (hQ:∀ r':Regs,rg r' 3 = .ptr H.next 0→rg r' 4 = .int .i64 n→rg r' 5 = .int .i64 m→rg r' 6=S s→Q .norm r' ((H.alloc zC).put H.next (cC c))):wpc Tryz.prog cd Q r H:=by
 simp [Tryz.f3,findR] at hc
 subst hc
 have haggC:aggT Tryz.prog 23=some true:=by kernel_rfl
 have hzC:szT Tryz.prog 23=some 5:=by kernel_rfl
 have hzz:zeroAV Tryz.prog 23=some (.agg zC):=by kernel_rfl
 have hcl:(AV.agg zC).cells=zC:=rfl
 have hcc:(CfA c).cells=cC c:=rfl
 refine wpc_ordJ (fun L _ h=>h=Al1H H c (L 8) (L 9)) (Al1V c n m s H.next) (by kernel_rfl) rfl ?_ ?_
 ·intro L r2 H1 hH cl hr
  have q1:rg r2 1 = .ptr 0 0:=(ordReg0 hr (by kernel_rfl)).trans r1
  have e1:Ext H (H.alloc zC):=(Ext.refl H).alloc _
  have e2:Ext H ((H.alloc zC).put H.next (cC c)):=e1.put (Nat.le_refl _) _
  have g1:H1.get 0=some [.int .i64 c.k,.int .i64 c.m,.int .i64 c.sh,.int .i64 c.st,.int .i64 c.sl,.int .i64 n,.int .i64 m,S s]:=by
   rw [hH]
   unfold Al1H
   split
   ·exact e2.got g0
   ·split
    ·exact e1.got g0
    ·exact g0
  refine ⟨?_,?_,?_,?_,?_,?_,?_,?_,?_,?_,?_,?_,?_,trivial⟩
  all_goals (intro hL hd;simp [DepL,VL,Al1V,Region.binds] at hd)
  ·simp [q1,fieldAddrX,g1,Al1V];exact ⟨_,rfl,rfl,hH⟩
  ·simp [hd,g1,loadX_agg haggC,hzC,takeN,Al1V,CfA];exact ⟨_,rfl,rfl,hH⟩
  ·simp [q1,fieldAddrX,g1,Al1V];exact ⟨_,rfl,rfl,hH⟩
  ·simp [hd,g1,Al1V];exact ⟨_,rfl,rfl,hH⟩
  ·simp [q1,fieldAddrX,g1,Al1V];exact ⟨_,rfl,rfl,hH⟩
  ·simp [hd,g1,Al1V];exact ⟨_,rfl,rfl,hH⟩
  ·simp [q1,fieldAddrX,g1,Al1V];exact ⟨_,rfl,rfl,hH⟩
  ·simp [hd,g1,Al1V];exact ⟨_,rfl,rfl,hH⟩
  ·have h9:=cl 9 8 (by kernel_rfl) hL
   have e:H1=H:=by rw [hH];unfold Al1H;simp [h9,show L 8=false from hL]
   subst e
   simp [hzz,zC,AV.cells,Al1V,Al1H,h9]
  ·have l9:L 9=false:=hL
   have l8:L 8=true:=by simp [hd]
   have e:H1=H.alloc zC:=by rw [hH];unfold Al1H;simp [l9,l8]
   subst e
   simp [hd,storeX_agg,hzC,putN,Heap.get_alloc_same,Al1H,CfA,cC,zC]
  ·simp [hd,Al1V];exact ⟨_,rfl,rfl,by simpa [hd] using hH⟩
  ·simp [hd,Al1V];exact ⟨_,rfl,rfl,by simpa [hd] using hH⟩
  ·simp [hd,Al1V];exact ⟨_,rfl,rfl,by simpa [hd] using hH⟩
 ·intro L r2 H1 hall hH hr hA
  have e:H1=(H.alloc zC).put H.next (cC c):=by rw [hH];unfold Al1H;simp [hall 9 (by decide)]
  subst e
  obtain ⟨_,_,_,_,_,_,_,_,h8,_,h10,h11,h12,_⟩:=hA
  simp [VL,Al1V] at h8 h10 h11 h12
  exact hQ r2 h8 h10 h11 h12
theorem volumeAlone_pure (c:Cfg) (n m:Int) (s:Txt) (_:CfW c) (_:(Lit.int .i64 n).wf=true) (_:(Lit.int .i64 m).wf=true) (_:s.length < 2 ^ 63) :
  CPure Tryz.prog 3 [.agg [.int .i64 c.k,.int .i64 c.m,.int .i64 c.sh,.int .i64 c.st,.int .i64 c.sl,.int .i64 n,.int .i64 m,S s]] (.bool true):=by
 refine CPure.of_sem (k:=1) ?_
 refine CSem.body hm Tryz.func3 rfl (by kernel_rfl) (by kernel_rfl) (by simp [Tryz.ntmps3]) ?_
 have haggC:aggT Tryz.prog 23=some true:=by kernel_rfl
 have hzC:szT Tryz.prog 23=some 5:=by kernel_rfl
 refine wpc_st (fun r h=>rg r 1 = .ptr 0 0∧h=Heap.empty.alloc [.int .i64 c.k,.int .i64 c.m,.int .i64 c.sh,.int .i64 c.st,.int .i64 c.sl,.int .i64 n,.int .i64 m,S s]) ?_ (by simp [AV.cells])
 rintro r _ ⟨r1,rfl⟩
 rw [wpc_seq]
 refine al1 rfl r1 (Heap.get_alloc_same _ _) fun r r3 r4 r5 r6=> ?_
 have hpos:0 < (Heap.empty.alloc [.int .i64 c.k,.int .i64 c.m,.int .i64 c.sh,.int .i64 c.st,.int .i64 c.sl,.int .i64 n,.int .i64 m,S s]).next:=Nat.succ_pos _
 have lp0:(Heap.empty.alloc [.int .i64 c.k,.int .i64 c.m,.int .i64 c.sh,.int .i64 c.st,.int .i64 c.sl,.int .i64 n,.int .i64 m,S s]).lp=none:=rfl
 generalize (Heap.empty.alloc [.int .i64 c.k,.int .i64 c.m,.int .i64 c.sh,.int .i64 c.st,.int .i64 c.sl,.int .i64 n,.int .i64 m,S s])=H0 at r3 hpos lp0 ⊢
 have g1:((H0.alloc zC).put H0.next (cC c)).get H0.next=some [.int .i64 c.k,.int .i64 c.m,.int .i64 c.sh,.int .i64 c.st,.int .i64 c.sl]:=Heap.get_put_same (Heap.get_alloc_same _ _)
 have lp1:((H0.alloc zC).put H0.next (cC c)).lp=none:=lp0
 generalize (H0.alloc zC).put H0.next (cC c)=H1 at g1 lp1 ⊢
 generalize H0.next=b at r3 g1 hpos
 have hbl:=Heap.get_lt g1
 have hfa:∀ i:Nat,True:=fun _=>trivial
 simp [r3,r4,r5,r6,g1,loadX_agg haggC,hzC,takeN]
 have hout:∀ (h:Heap) (K:AV→Heap→Prop),K (.bool true) h→Call Tryz.prog 11 [] h K:=out16
 refine (rtiny_call c _).use ?_
 by_cases hT:SmL c
 rotate_left
 ·simp [hT]
  refine hout _ _ ?_
  simp
 by_cases hn0:n < 0
 ·simp [hT,r4,hn0]
  refine hout _ _ ?_
  simp
 by_cases hm0:m < 0
 ·simp [hT,r4,r5,hn0,hm0]
  refine hout _ _ ?_
  simp
 by_cases hn:c.st≤n
 ·simp [hT,r3,r4,r5,hn0,hm0,g1,fieldAddrX,hn]
  refine hout _ _ ?_
  simp
 by_cases hmm:c.st≤m
 ·simp [hT,r3,r4,r5,hn0,hm0,g1,fieldAddrX,hn,hmm]
  refine hout _ _ ?_
  simp
 simp [hT,r3,r4,r5,r6,hn0,hm0,g1,fieldAddrX,hn,hmm,loadX_agg haggC,hzC,takeN]
 refine (rconfCap_call c _).use ?_
 by_cases hcap:confCap c < s.length
 ·simp [hcap]
  refine hout _ _ ?_
  simp
 obtain ⟨hC,t1,t2,t3,t4⟩:=hT
 simp [hcap,r3,g1,loadX_agg haggC,hzC,takeN]
 refine (fresh_sem hC H1).then ?_
 rintro _ H2 ⟨p,rfl,A2,E2⟩
 have e0:freshR c=freshA c:=rfl
 rw [e0] at A2
 have h0:=conf_sl hC
 have Q0:ArrQ 0 (freshA c):=ArrQ.new (by omega) (by omega) ⟨by omega,by omega,by have:=hC.2.2.1.1;have:=Int.mul_nonneg (show 0≤c.k by omega) (show 0≤c.sh by omega);omega,by omega⟩
 obtain ⟨f1,f2,f3,f4,f5,f6,f7⟩:=alone_ok hC (n:=n) (m:=m) (by omega) (by omega) (by omega) (by omega) (s:=s) (by omega) rfl rfl rfl
 have hl0:=(VS.make hC).2.2.2.2.1
 have hl:((vmakeR (freshA c) c 7).ar.disks.length:Int)=c.k+c.m:=hl0
 have Q1:=vmake_Q Q0 7 c
 have hd0:(freshA c).disks.length=(c.k+c.m).toNat:=by unfold freshA newArr;simp
 have hb1:0+((freshA c).disks.length+c.st.toNat * (freshA c).disks.length)≤100:=by
  rw [hd0]
  have:c.st.toNat * (c.k+c.m).toNat≤6 * 7:=Nat.mul_le_mul (by omega) (by omega)
  omega
 have Q1:=Q1.mono hb1
 generalize ha1:(vmakeR (freshA c) c 7).ar=a1 at *
 obtain ⟨q,nb,cells,ps,A2⟩:=A2.arrI Q0.b.one
 have A2:At (ArrI p q nb cells ps (freshA c)) (fun x=>x=b) H2:=A2.mono fun x hx=>by rw [hx];exact hbl
 have g2:=E2.got g1
 have lp2:H2.lp=none:=E2.lp.trans lp1
 simp [r3,g2,loadX_agg haggC,hzC,takeN]
 refine (vmake_sem (id:=7) (c:=c) Q0 (by decide) A2 lp2).then ?_
 rintro x3 H3 ⟨K3,_,_,hs3⟩
 obtain ⟨pv,rfl,hpv,gv3,A3⟩:=hs3 c 0 f1
 rw [f2]
 rw [ha1] at A3
 have lp3:H3.lp=none:=K3.lp.trans lp2
 have g3:=K3.got rfl g2
 simp [r4,r5,r6]
 have B1:VolB 100 a1 c:=⟨hC,Q1,by decide⟩
 refine (vwrite_sem B1 hl (by decide) (by decide) gv3 A3 (.inr rfl) (by decide) (by decide) lp3 m oldT).then ?_
 rintro _ H4 ⟨rfl,A4,K4,gv4⟩
 rw [f3] at gv4 ⊢
 have Q2:=vwrite_Q Q1 7 c 0 m oldT
 have hl2:((vwriteR a1 7 c 0 m oldT).1.disks.length:Int)=c.k+c.m:=by rw [vwrite_len];exact hl
 have Q2:=Q2.mono (k':=200) (by have:=aliveL_len a1 (c.m+1).toNat;omega)
 generalize ha2:(vwriteR a1 7 c 0 m oldT).1=a2 at *
 have lp4:H4.lp=none:=K4.lp.trans lp3
 have g4:=K4.got ⟨.inl rfl,fun e=>by have:=Heap.get_lt g2;omega⟩ g3
 have B2:VolB 200 a2 c:=⟨hC,Q2,by decide⟩
 simp [r4,r5,r6]
 refine (vwrite_sem B2 hl2 (by decide) (by decide) gv4 A4 (.inr rfl) (by decide) (by decide) lp4 n s).then ?_
 rintro _ H5 ⟨rfl,A5,K5,gv5⟩
 rw [f4] at gv5 ⊢
 have Q3:=vwrite_Q Q2 7 c 1 n s
 have hl3:((vwriteR a2 7 c 1 n s).1.disks.length:Int)=c.k+c.m:=by rw [vwrite_len];exact hl2
 have Q3:=Q3.mono (k':=300) (by have:=aliveL_len a2 (c.m+1).toNat;omega)
 generalize ha3:(vwriteR a2 7 c 1 n s).1=a3 at *
 have lp5:H5.lp=none:=K5.lp.trans lp4
 have g5:=K5.got ⟨.inl rfl,fun e=>by have:=Heap.get_lt g2;omega⟩ g4
 have B3:VolB 300 a3 c:=⟨hC,Q3,by decide⟩
 simp [r4,r5,r6]
 refine (vread_sem B3 gv5 A5 lp5 n).use ?_
 rw [f5]
 simp [r4,r5,r6]
 refine (vread_sem B3 gv5 A5 lp5 m).use ?_
 rw [f6]
 simp [r4,r5,r6]
 refine (vhealth_sem B3 gv5 A5 lp5 n).use ?_
 rw [f7]
 have hkm:IntKind.i64.wrap (c.k+c.m)=c.k+c.m:=wrap64 (by omega) (by omega)
 by_cases hnm:n=m
 ·subst hnm
  by_cases ho:s=[111,108,100]
  ·simp [r3,r4,r5,r6,g5,fieldAddrX,hkm,ho]
   refine (vseq_sem gv5).use ?_
   simp
   refine hout _ _ ?_
   simp
  ·simp [r3,r4,r5,r6,g5,fieldAddrX,hkm,ho]
   refine (vseq_sem gv5).use ?_
   simp
   refine hout _ _ ?_
   simp
 ·simp [r3,r4,r5,r6,g5,fieldAddrX,hkm,hnm,oldT]
  refine (vseq_sem gv5).use ?_
  simp
  refine hout _ _ ?_
  simp
end Go.Proofs.YtjcnihmbpakipaaGreatDoor.X
