/-
  ScrubMends.
-/
import Derived.Test.YtngbipjclpncoaaGreatDoorV81
import Derived.Test.YtngbipjclpncoaaGreatDoorV82
namespace Go.Proofs.YtngbipjclpncoaaGreatDoor.X
open Go.RowKit F
set_option maxRecDepth 100000
set_option linter.unusedSimpArgs false
set_option linter.unusedVariables false
theorem rep_ne (a0 a1 a2 b0 b1 b2:Int) (a3 b3:Bool):binX Tryz.prog .neq 34 (.agg [.int .i64 a0,.int .i64 a1,.int .i64 a2,.bool a3]) (.agg [.int .i64 b0,.int .i64 b1,.int .i64 b2,.bool b3])=some (.bool (!(decide (a0=b0) && decide (a1=b1) && decide (a2=b2) && decide (a3=b3)))):=by
 have h:=rep_cmp a0 a1 a2 b0 b1 b2 a3 b3
 simp only [binX] at h ⊢
 cases hq:aggEq Tryz.prog 34 [.int .i64 a0,.int .i64 a1,.int .i64 a2,.bool a3] [.int .i64 b0,.int .i64 b1,.int .i64 b2,.bool b3] with
 | none=>rw [hq] at h;simp at h
 | some v =>
  rw [hq] at h
  simp at h
  simp [h]
structure MwI (tv:AV) (lv:AV) (p q nb:Nat) (cells:List AV) (ps:List Nat) (pv pm bl bb b:Nat) (c:Cfg) (a:Arr) (sq:Int) (ts:List Txt) (bd:List Bool) (i:Nat) (r:Regs) (hp:Heap):Prop where
 le:i≤ts.length
 r1:rg r 1=tv
 r2:rg r 2=lv
 r3:rg r 3 = .ptr b 0
 r7:rg r 7 = .ptr p 0
 r8:rg r 8 = .ptr pv 0
 r9:rg r 9 = .ptr pm 0
 r10:rg r 10 = .int .i64 i
 gc:hp.get b=some [.int .i64 c.k,.int .i64 c.m,.int .i64 c.sh,.int .i64 c.st,.int .i64 c.sl]
 H:LawV p q nb cells ps pv c 0 a sq (EM b pm bl bb) hp
 M:MdA pm bl bb c (madeM c ts i) bd hp
structure RdI (p q nb:Nat) (cells:List AV) (ps:List Nat) (pv pm bl bb b:Nat) (c:Cfg) (a:Arr) (sq:Int) (L:List Txt) (bd:List Bool) (E:Nat→Prop) (i:Nat) (r:Regs) (hp:Heap):Prop where
 le:i≤L.length
 r3:rg r 3 = .ptr b 0
 r8:rg r 8 = .ptr pv 0
 r9:rg r 9 = .ptr pm 0
 r19:rg r 19 = .int .i64 i
 gc:hp.get b=some [.int .i64 c.k,.int .i64 c.m,.int .i64 c.sh,.int .i64 c.st,.int .i64 c.sl]
 H:LawV p q nb cells ps pv c 0 a sq E hp
 M:MdA pm bl bb c L bd hp
theorem scrubMends_pure (c:Cfg) (ts:List Txt) (l:List HuD) (_:CfW c) (_:ts.length < 2 ^ 48) (_:∀ x∈ts,x.length < 2 ^ 63) (_:l.length < 2 ^ 48) (hlw:∀ x∈l,HuW x) :
  CPure Tryz.prog 5 [CfA c,SL ts,TR HuC l] (.bool true):=by
 refine CPure.of_sem (k:=1) ?_
 refine CSem.body hm Tryz.func5 rfl (by kernel_rfl) (by kernel_rfl) (by simp [Tryz.ntmps5]) ?_
 have haggC:aggT Tryz.prog 23=some true:=by kernel_rfl
 have hzC:szT Tryz.prog 23=some 5:=by kernel_rfl
 have haggR:aggT Tryz.prog 34=some true:=by kernel_rfl
 have hzR:szT Tryz.prog 34=some 4:=by kernel_rfl
 have hzr:zeroAV Tryz.prog 34=some (.agg [.int .i64 0,.int .i64 0,.int .i64 0,.bool false]):=by kernel_rfl
 have hb1:∀ n m d,buildX Tryz.prog 34 [(0,.int .i64 n),(1,.int .i64 m),(3,.bool d)]=some (.agg [.int .i64 n,.int .i64 m,.int .i64 0,.bool d]):=fun n m d=>by kernel_rfl
 have hel:(elT Tryz.prog 45).isSome=true:=by kernel_rfl
 have hcC:(CfA c).cells=[.int .i64 c.k,.int .i64 c.m,.int .i64 c.sh,.int .i64 c.st,.int .i64 c.sl]:=rfl
 have hout:∀ (h:Heap) (K:AV→Heap→Prop),K (.bool true) h→Call Tryz.prog 12 [] h K:=out17
 refine wpc_st (fun r h=>rg r 1=SL ts∧rg r 2=TR HuC l∧rg r 3 = .ptr 0 0∧h=Heap.empty.alloc [.int .i64 c.k,.int .i64 c.m,.int .i64 c.sh,.int .i64 c.st,.int .i64 c.sl]) ?_ (by simp [hcC])
 rintro r _ ⟨r1,r2,r3,rfl⟩
 have g1:(Heap.empty.alloc [.int .i64 c.k,.int .i64 c.m,.int .i64 c.sh,.int .i64 c.st,.int .i64 c.sl]).get 0=some [.int .i64 c.k,.int .i64 c.m,.int .i64 c.sh,.int .i64 c.st,.int .i64 c.sl]:=Heap.get_alloc_same Heap.empty _
 have lp1:(Heap.empty.alloc [.int .i64 c.k,.int .i64 c.m,.int .i64 c.sh,.int .i64 c.st,.int .i64 c.sl]).lp=none:=rfl
 generalize (Heap.empty.alloc [.int .i64 c.k,.int .i64 c.m,.int .i64 c.sh,.int .i64 c.st,.int .i64 c.sl])=H1 at g1 lp1 ⊢
 have hbl:=Heap.get_lt g1
 simp [r3,g1,loadX_agg haggC,hzC,takeN]
 refine (rtiny_call c _).use ?_
 by_cases hT:SmL c
 rotate_left
 ·simp [hT]
  refine hout _ _ ?_
  simp
 by_cases hw6:(6:Int) < ts.length
 ·simp [hT,r1,hw6]
  refine hout _ _ ?_
  simp
 by_cases hw12:(12:Int) < l.length
 ·simp [hT,r1,r2,hw6,hw12,lenX_TR hel]
  refine hout _ _ ?_
  simp
 simp [hT,r1,r2,r3,hw6,hw12,lenX_TR hel,g1,loadX_agg haggC,hzC,takeN]
 obtain ⟨hC,t1,t2,t3,t4⟩:=hT
 have h0:=conf_sl hC
 refine (made17_sem hC ⟨t1,t3⟩ (ts:=ts) (tv:=SL ts) (by omega) _ (.inl rfl) lp1).then ?_
 rintro _ H2 ⟨p,q,nb,cells,ps,pv,rfl,LH,F2⟩
 have LH:=LH.less (E':=fun x=>x=0) fun x hx=>by rw [hx];exact hbl
 have g2:=(F2 0 hbl).trans g1
 obtain ⟨W,s0,s1⟩:=made_ok hC ts ts.length (by omega)
 generalize madeL c ts ts.length=aq at LH W s0 s1
 obtain ⟨a0,sq⟩:=aq
 simp only at LH W s0 s1
 simp [r3,g2,loadX_agg haggC,hzC,takeN]
 refine (LH.mnew hC).then ?_
 rintro _ H3 ⟨pm,bl,bb,rfl,L3,M3,F3,hne⟩
 obtain ⟨n1,n2,n3⟩:=hne 0 rfl
 have g3:=(F3 0 rfl).trans g2
 generalize List.replicate (c.k+c.m).toNat false=bd at M3
 simp
 refine wpc_loop (MwI (SL ts) (TR HuC l) p q nb cells ps pv pm bl bb 0 c a0 sq ts bd) (ts.length - ·) ?_ 0 ?_
 rotate_left
 ·exact ⟨by omega,by simpa using r1,by simpa using r2,by simpa using r3,by simp,by simp,by simp,by simp,g3,L3,M3⟩
 clear L3 M3 F3 g3 LH g2 F2 g1 lp1 r1 r2 r3 hbl
 rintro i r hp ⟨le,r1,r2,r3,r7,r8,r9,r10,gc,H,M⟩
 rcases Nat.lt_or_eq_of_le le with hlt|heq
 ·have hlt':(i:Int) < ts.length:=by omega
  have hw1:IntKind.i64.wrap ((i:Int)+1)=(i:Int)+1:=wrap64 (by omega) (by omega)
  simp [r1,r9,r10,hlt,hlt']
  refine (H.mw M (.inr (.inr (.inl rfl))) (by rw [madeM_len];omega) i ts[i]).then ?_
  rintro _ h2 ⟨rfl,H2,M2,F2⟩
  simp [r10,hw1]
  refine ⟨i+1,by omega,by omega,by simpa using r1,by simpa using r2,by simpa using r3,by simpa using r7,by simpa using r8,by simpa using r9,by simp,(F2 0 n2).trans gc,H2,?_⟩
  have hti:ts[i]?.getD []=ts[i]:=by simp [hlt]
  rw [madeM,hti]
  exact M2
 subst heq
 simp [r1,r2,r3,r7,r10,gc,loadX_agg haggC,hzC,takeN]
 have hLl:((madeM c ts ts.length).length:Int)=c.st:=by rw [madeM_len];omega
 generalize madeM c ts ts.length=L at W M hLl
 refine (hurts_sem H hC ⟨t1,t3,t4⟩ W.ex (by omega) hlw).then ?_
 rintro _ H4 hq
 rcases hq with ⟨n,rfl⟩|⟨a1,X,bdd,rfl,L4,F4,EX4,hbd,hX,hbads,hD⟩
 ·simp
  refine hout _ _ ?_
  simp
 have g4:=(F4 0 (.inl rfl)).trans gc
 have M4:=M.fr F4 (.inr (.inl rfl)) (.inr (.inr (.inl rfl))) (.inr (.inr (.inr rfl)))
 clear H M gc
 obtain ⟨e1,e2,EX5,hl5⟩:=EX4.found (by omega) hbd hX hbads
 simp [r8]
 refine (L4.all hC (by decide)).then ?_
 rintro _ H5 ⟨rfl,L5,F5⟩
 rw [hD] at e2 hl5
 simp only [repC,e1,e2]
 have W5:=EX5.wh
 have L5:=L5.mono (L5.q.qt W5.v.qt)
 generalize (scAllR a1 7 c).ar=a2 at L5 EX5 hl5 W5
 have g5:=(F5 0 (.inl rfl)).trans g4
 have M5:=M4.fr F5 (.inr (.inl rfl)) (.inr (.inr (.inl rfl))) (.inr (.inr (.inr rfl)))
 simp [hzr,AV.cells,storeX_agg,hzR,putN,Heap.get_alloc_same]
 obtain ⟨L6,g6,F6⟩:=L5.box [.int .i64 0,.int .i64 0,.int .i64 0,.bool false] [.int .i64 c.st,.int .i64 (totX X a0.disks.length c.sl.toNat c.st.toNat:Nat),.int .i64 0,.bool true]
 have gc6:=(F6 0 (.inl rfl)).trans g5
 have M6:=M5.fr F6 (.inr (.inl rfl)) (.inr (.inr (.inl rfl))) (.inr (.inr (.inr rfl)))
 generalize (H5.alloc [.int .i64 0,.int .i64 0,.int .i64 0,.bool false]).put H5.next [.int .i64 c.st,.int .i64 (totX X a0.disks.length c.sl.toNat c.st.toNat:Nat),.int .i64 0,.bool true]=H6 at L6 g6 gc6 M6 ⊢
 generalize H5.next=b9 at L6 g6 ⊢
 clear L4 F4 M4 L5 F5 M5 F6 g4 g5
 simp [r3,fieldAddrX,gc6,g6,loadX_agg haggR,hzR,takeN,hb1,rep_ne,r8]
 obtain ⟨z1,z2,z3,z4⟩:=EX5.step0 (by omega) (fr:=0) (many:=max c.st 1) (by omega) (by omega) (by omega)
 have z1:(scAllR a2 7 c).er=0:=z1
 have z2:(scAllR a2 7 c).rp=⟨0+min (max c.st 1) (c.st - 0),0,0,decide (0+min (max c.st 1) (c.st - 0)=c.st)⟩:=z2
 have z3:EX c (scAllR a2 7 c).ar sq L (fun _ _=>false):=z3
 have z4:(scAllR a2 7 c).ar.disks.length=a2.disks.length:=z4
 refine (L6.all hC (by decide)).then ?_
 rintro _ H7 ⟨rfl,L7,F7⟩
 simp only [repC,z1,z2]
 have W7:=z3.wh
 have L7:=L7.mono (L7.q.qt W7.v.qt)
 generalize (scAllR a2 7 c).ar=a3 at L7 z3 z4 W7
 generalize (0:Int)+min (max c.st 1) (c.st - 0)=nx
 have g7:=(F7 0 (.inl (.inl rfl))).trans gc6
 have M7:=M6.fr F7 (.inl (.inr (.inl rfl))) (.inl (.inr (.inr (.inl rfl)))) (.inl (.inr (.inr (.inr rfl))))
 generalize hdec:decide (nx=c.st)=dn
 simp [hzr,AV.cells,storeX_agg,hzR,putN,Heap.get_alloc_same]
 obtain ⟨L8,g8,F8⟩:=L7.box [.int .i64 0,.int .i64 0,.int .i64 0,.bool false] [.int .i64 nx,.int .i64 0,.int .i64 0,.bool dn]
 have gc8:=(F8 0 (.inl (.inl rfl))).trans g7
 have M8:=M7.fr F8 (.inl (.inr (.inl rfl))) (.inl (.inr (.inr (.inl rfl)))) (.inl (.inr (.inr (.inr rfl))))
 generalize (H7.alloc [.int .i64 0,.int .i64 0,.int .i64 0,.bool false]).put H7.next [.int .i64 nx,.int .i64 0,.int .i64 0,.bool dn]=H8 at L8 g8 gc8 M8 ⊢
 generalize H7.next=b15 at L8 g8 ⊢
 clear L6 L7 F7 M6 M7 F8 g6 g7 gc6
 simp [r8]
 refine (L8.least hC (by decide)).use ?_
 have hlen:=W7.len
 have hle:leastR a3 7 c=(c.k+c.m,0):=by
  have:=z3.least (fun n hn=>cnt_none fun d hd=>rfl) c.st.toNat (by omega)
  rw [if_neg (by omega)] at this
  unfold leastR
  rw [this]
  congr 1
  omega
 rw [hle]
 have hwk:IntKind.i64.wrap (c.k+c.m)=c.k+c.m:=wrap64 (by omega) (by omega)
 simp [r3,fieldAddrX,gc8,g8,hwk]
 refine wpc_loop (RdI p q nb cells ps pv pm bl bb 0 c a3 sq L bd (fun x=>(EM 0 pm bl bb x∨x=b9)∨x=b15)) (L.length - ·) ?_ 0 ?_
 rotate_left
 ·exact ⟨by omega,by simpa using r3,by simpa using r8,by simpa using r9,by simp,gc8,L8,M8⟩
 clear L8 M8 g8 gc8 r1 r2 r3 r7 r8 r9 r10
 rintro i r hp ⟨le,r3,r8,r9,r19,gc,H,M⟩
 rcases Nat.lt_or_eq_of_le le with hlt|heq
 ·have hlt':(i:Int) < c.st:=by omega
  have hw1:IntKind.i64.wrap ((i:Int)+1)=(i:Int)+1:=wrap64 (by omega) (by omega)
  have gm:=M.gm
  have gl:=M.gl
  simp only [mdC] at gm
  simp [r3,r8,r19,fieldAddrX,gc,hlt']
  refine (H.read hC (by decide) i).use ?_
  rw [W7.v.read W7.gd i,mRd_at hLl hlt]
  simp [r9,r19,fieldAddrX,gm,gl,hlt,hw1]
  exact ⟨i+1,by omega,by omega,by simpa using r3,by simpa using r8,by simpa using r9,by simp,gc,H,M⟩
 ·have hge:¬((i:Int) < c.st):=by omega
  simp [r3,r19,fieldAddrX,gc,hge]
  refine hout _ _ ?_
  simp
end Go.Proofs.YtngbipjclpncoaaGreatDoor.X
