/-
  VolumeTwice.
-/
import Derived.Test.YtjcnihmbpakipaaGreatDoorVG
namespace Go.Proofs.YtjcnihmbpakipaaGreatDoor.X
open Go.RowKit F
set_option maxRecDepth 100000
set_option linter.unusedSimpArgs false
set_option linter.unusedVariables false
structure Lt1 (b p q nb:Nat) (cells:List AV) (ps:List Nat) (pv:Nat) (c:Cfg) (ws:List OpD) (i:Nat) (r:Regs) (hp:Heap):Prop where
 le:i≤ws.length
 r1:rg r 1=TR OpC ws
 r2:rg r 2 = .ptr b 0
 r5:rg r 5 = .ptr p 0
 r6:rg r 6 = .ptr pv 0
 r8:rg r 8 = .int .i64 i
 ex:∃ a sq L,hp.get b=some [.int .i64 c.k,.int .i64 c.m,.int .i64 c.sh,.int .i64 c.st,.int .i64 c.sl]∧hp.get pv=some (volC p c 7 sq)∧At (ArrI p q nb cells ps a) (fun x=>x=b∨x=pv) hp∧hp.lp=none∧ArrQ (100+i * 14) a∧(a.disks.length:Int)=c.k+c.m ∧
  VS c a sq L (fun _=>False)∧a.left < 0∧0≤sq∧sq≤i∧∀ d:Nat,d < a.disks.length→a.alive (d:Int)=true
structure Lt2 (b pv pw px:Nat) (c:Cfg) (H:Heap) (i:Nat) (r:Regs) (hp:Heap):Prop where
 le:i≤c.st.toNat
 r2:rg r 2 = .ptr b 0
 r6:rg r 6 = .ptr pv 0
 r9:rg r 9 = .ptr pw 0
 r11:rg r 11 = .ptr px 0
 r13:rg r 13 = .int .i64 i
 h:H=hp
theorem volumeTwice_pure (c:Cfg) (ws:List OpD) (_:CfW c) (_:ws.length < 2 ^ 48) (_:∀ x∈ws,OpW x) :
  CPure Tryz.prog 5 [CfA c,TR OpC ws] (.bool true):=by
 refine CPure.of_sem (k:=1) ?_
 refine CSem.body hm Tryz.func5 rfl (by kernel_rfl) (by kernel_rfl) (by simp [Tryz.ntmps5]) ?_
 have haggC:aggT Tryz.prog 23=some true:=by kernel_rfl
 have hzC:szT Tryz.prog 23=some 5:=by kernel_rfl
 have hel:(elT Tryz.prog 42).isSome=true:=by kernel_rfl
 have hez:(elT Tryz.prog 42).bind (szT Tryz.prog)=some 4:=by kernel_rfl
 have hcC:(CfA c).cells=[.int .i64 c.k,.int .i64 c.m,.int .i64 c.sh,.int .i64 c.st,.int .i64 c.sl]:=rfl
 have hfl:flatT Tryz.prog 23=some [(0,1),(1,1),(2,1),(3,1),(4,1)]:=by kernel_rfl
 have hcmp:binX Tryz.prog .eql 23 (CfA c) (.agg [.int .i64 c.k,.int .i64 c.m,.int .i64 c.sh,.int .i64 c.st,.int .i64 c.sl])=some (.bool true):=by
  have e1:∀ x y:Int,eq1 1 (.int .i64 x) (.int .i64 y)=some (x == y):=fun x y=>by simp [eq1]
  simp only [binX,CfA,aggEq,hfl,Option.bind_some,eqL,List.getElem?_cons_zero,List.getElem?_cons_succ,e1,Option.map_some]
  simp
 have hout:∀ (h:Heap) (K:AV→Heap→Prop),K (.bool true) h→Call Tryz.prog 11 [] h K:=out16
 refine wpc_st (fun r h=>rg r 1=TR OpC ws∧rg r 2 = .ptr 0 0∧h=Heap.empty.alloc [.int .i64 c.k,.int .i64 c.m,.int .i64 c.sh,.int .i64 c.st,.int .i64 c.sl]) ?_ (by simp [hcC])
 rintro r _ ⟨r1,r2,rfl⟩
 have g1:(Heap.empty.alloc [.int .i64 c.k,.int .i64 c.m,.int .i64 c.sh,.int .i64 c.st,.int .i64 c.sl]).get 0=some [.int .i64 c.k,.int .i64 c.m,.int .i64 c.sh,.int .i64 c.st,.int .i64 c.sl]:=Heap.get_alloc_same Heap.empty _
 have lp1:(Heap.empty.alloc [.int .i64 c.k,.int .i64 c.m,.int .i64 c.sh,.int .i64 c.st,.int .i64 c.sl]).lp=none:=rfl
 generalize (Heap.empty.alloc [.int .i64 c.k,.int .i64 c.m,.int .i64 c.sh,.int .i64 c.st,.int .i64 c.sl])=H1 at g1 lp1 ⊢
 simp [r2,g1,loadX_agg haggC,hzC,takeN]
 refine (rtiny_call c _).use ?_
 by_cases hT:SmL c
 rotate_left
 ·simp [hT]
  refine hout _ _ ?_
  simp
 by_cases hw8:(8:Int) < ws.length
 ·simp [hT,r1,hw8,lenX_TR hel]
  refine hout _ _ ?_
  simp
 simp [hT,r1,r2,hw8,lenX_TR hel,g1,loadX_agg haggC,hzC,takeN]
 obtain ⟨hC,t1,t2,t3,t4⟩:=hT
 have h0:=conf_sl hC
 refine (law_start hC ⟨t1,t3⟩ g1 lp1).then ?_
 rintro _ H2 ⟨p,rfl,g2,lp2,q,nb,cells,ps,A2⟩
 simp [r2,g2,loadX_agg haggC,hzC,takeN]
 refine (law_make hC ⟨t1,t3⟩ g2 lp2 A2).then ?_
 rintro _ H3 ⟨pv,rfl,g3,lp3,gv3,hne,A3,Q3⟩
 obtain ⟨_,_,V0,lf0,hl0,hal0⟩:=VS.make hC
 simp
 refine wpc_loop (Lt1 0 p q nb cells ps pv c ws) (ws.length - ·) ?_ 0 ?_
 rotate_left
 ·exact ⟨by omega,by simpa using r1,by simpa using r2,by simp,by simp,by simp,⟨_,_,_,g3,gv3,A3,lp3,Q3,hl0,V0,lf0,by omega,by omega,hal0⟩⟩
 clear V0 lf0 hl0 hal0 g3 gv3 A3 Q3 lp3 g2 A2 lp2 g1 lp1 r1 r2
 rintro i r hp ⟨le,r1,r2,r5,r6,r8,⟨a,sq,L,gc,gv,A,lp,Q,hl,V,lf,s0,s1,hal⟩⟩
 rcases Nat.lt_or_eq_of_le le with hlt|heq
 ·have hlt':(i:Int) < ws.length:=by omega
  have hw1:IntKind.i64.wrap ((i:Int)+1)=(i:Int)+1:=wrap64 (by omega) (by omega)
  have hat:=ops_at hlt
  obtain ⟨e1,e2,V1,S1⟩:=V.write lf (by rw [aliveL_all hal];omega) (by omega) ws[i].n ws[i].s
  simp [r1,r8,hlt',lenX_TR hel]
  refine wpc_draw 11 (by kernel_rfl) ?_
  simp [r1,r6,r8,hlt',indexAddrX_TR hez,hat,fieldAddrX]
  have B:VolB (100+i * 14) a c:=⟨hC,Q,by omega⟩
  refine (vwrite_sem B hl (by omega) (by decide) gv A (.inr rfl) s0 (by omega) lp ws[i].n ws[i].s).then ?_
  rintro _ h1 ⟨rfl,A1,K1,gv1⟩
  have Q1:=vwrite_Q Q 7 c sq ws[i].n ws[i].s
  have hal1:=aliveL_len a (c.m+1).toNat
  simp [r8,hw1]
  have hs:(vwriteR a 7 c sq ws[i].n ws[i].s).2.1≤sq+1∧0≤(vwriteR a 7 c sq ws[i].n ws[i].s).2.1:=by rw [e2];split<;>omega
  refine ⟨i+1,by omega,by omega,by simpa using r1,by simpa using r2,by simpa using r5,by simpa using r6,by simp,⟨_,_,_,K1.got ⟨.inl rfl,hne⟩ gc,gv1,A1,K1.lp.trans lp,Q1.mono (by omega),by rw [vwrite_len];exact hl,V1,S1.neg lf,hs.2,by omega,fun d hd=> ?_⟩⟩
  rw [S1.al]
  exact hal d (by rw [←S1.len];exact hd)
 subst heq
 have G0:Gd c a (fun _=>False):=by
  obtain ⟨⟨g,I,_⟩,_⟩:=V
  exact Gd.all I fun d hd=>⟨hal d hd,fun h=>h⟩
 simp [r1,r5,r8,lenX_TR hel]
 refine (law_open t3 V G0 lf (by omega) Q A lp).then ?_
 rintro _ H5 ⟨pw,rfl,n5,gw5,A5,K5,lp5,Q5,V5,S5⟩
 have gc5:=K5.got (.inl rfl) gc
 have gv5:=K5.got (.inr rfl) gv
 simp [r5]
 refine (law_open t3 V5 (G0.stp S5) (S5.neg lf) (by omega) Q5 A5 lp5).then ?_
 rintro _ H6 ⟨px,rfl,n6,gx6,A6,K6,lp6,Q6,V6,S6⟩
 have gc6:=K6.got (.inl (.inl rfl)) gc5
 have gv6:=K6.got (.inl (.inr rfl)) gv5
 have gw6:=K6.got (.inr rfl) gw5
 generalize (vopenR (vopenR a 7).ar 7).ar=a6 at *
 have B:VolB 0 a6 c:=⟨hC,Q6,by decide⟩
 have hst:((c.st.toNat:Nat):Int)=c.st:=by omega
 simp
 refine wpc_loop (Lt2 0 pv pw px c H6) (c.st.toNat - ·) ?_ 0 ?_
 rotate_left
 ·exact ⟨by omega,by simpa using r2,by simpa using r6,by simp,by simp,by simp,rfl⟩
 clear r1 r2 r5 r6 r8 le
 rintro i r hp' ⟨le,r2,r6,r9,r11,r13,rfl⟩
 rcases Nat.lt_or_eq_of_le le with hlt|heq
 ·have hlt':(i:Int) < c.st:=by omega
  have hw1:IntKind.i64.wrap ((i:Int)+1)=(i:Int)+1:=wrap64 (by omega) (by omega)
  simp [r2,r6,r13,fieldAddrX,gc6,hlt']
  refine (vread_sem B gv6 A6 lp6 i).use ?_
  simp [r9,r13]
  refine (vread_sem B gw6 A6 lp6 i).use ?_
  simp [r11,r13]
  refine (vread_sem B gx6 A6 lp6 i).use ?_
  simp [r13,hw1]
  exact ⟨i+1,by omega,by omega,by simpa using r2,by simpa using r6,by simpa using r9,by simpa using r11,by simp,rfl⟩
 subst heq
 simp [r2,r13,fieldAddrX,gc6,hst]
 refine wpc_draw 21 (by kernel_rfl) ?_
 simp [r9]
 refine QCall.use (x:= .int .i64 sq) (vseq_sem gw6) ?_
 simp [r6]
 refine QCall.use (x:= .int .i64 sq) (vseq_sem gv6) ?_
 simp [r11]
 refine QCall.use (x:= .int .i64 sq) (vseq_sem gx6) ?_
 simp [r6]
 refine QCall.use (x:= .int .i64 sq) (vseq_sem gv6) ?_
 simp [r9]
 refine QCall.use (x:=CfA c) (vconf_sem gw6) ?_
 simp [r2,gc6,loadX_agg haggC,hzC,takeN,hcmp]
 refine QCall.use (x:= .bool true) (live_call _) ?_
 simp
end Go.Proofs.YtjcnihmbpakipaaGreatDoor.X
