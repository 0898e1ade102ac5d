/-
  VolumeCrash.
-/
import Derived.Test.YtjcnihmbpakipaaGreatDoorXRowW
namespace Go.Proofs.YtjcnihmbpakipaaGreatDoor.X
open Go.RowKit F
set_option maxRecDepth 100000
set_option linter.unusedSimpArgs false
set_option linter.unusedVariables false
def E2 (b3 b6:Nat) (y:Nat):Prop:=y=b3∨y=b6
structure Got (b3 b6:Nat) (c:Cfg) (x:CrD) (hp:Heap):Prop where
 g3:hp.get b3=some [.int .i64 c.k,.int .i64 c.m,.int .i64 c.sh,.int .i64 c.st,.int .i64 c.sl]
 g6:hp.get b6=some [.int .i64 x.f,OL x.kp,.int .i64 x.ag,OL x.mo]
theorem Got.fr {b3 b6:Nat} {c:Cfg} {x:CrD} {h h':Heap} (g:Got b3 b6 c x h) (F:Fr (E2 b3 b6) h h'):Got b3 b6 c x h':=⟨(F b3 (.inl rfl)).trans g.g3,(F b6 (.inr rfl)).trans g.g6⟩
theorem Got.ext {b3 b6:Nat} {c:Cfg} {x:CrD} {h h':Heap} (g:Got b3 b6 c x h) (F:Ext h h'):Got b3 b6 c x h':=⟨F.got g.g3,F.got g.g6⟩
structure Lc1 (b3 b6 p q nb:Nat) (cells:List AV) (ps:List Nat) (pv pm bl bb:Nat) (c:Cfg) (L:List Txt) (bd:List Bool) (ws:List OpD) (fs:List Int) (x:CrD) (i:Nat) (r:Regs) (hp:Heap):Prop where
 le:i≤fs.length
 r4:rg r 4=TR OpC ws
 r5:rg r 5=IL fs
 r6:rg r 6 = .ptr b6 0
 r7:rg r 7 = .ptr p 0
 r8:rg r 8 = .ptr pv 0
 r10:rg r 10 = .ptr pm 0
 r11:rg r 11 = .int .i64 i
 ex:∃ a,LawE p q nb cells ps pv pm bl bb c 0 a 0 L bd (E2 b3 b6) hp∧Got b3 b6 c x hp∧VS c a 0 L (fun _=>False)∧c.k+c.m≤((aliveL a a.disks.length).length:Int)+i
structure Cut (b3 b6 p q nb:Nat) (cells:List AV) (ps:List Nat) (pm bl bb:Nat) (c:Cfg) (bd:List Bool) (x:CrD) (r:Regs) (hp:Heap):Prop where
 r6:rg r 6 = .ptr b6 0
 r7:rg r 7 = .ptr p 0
 r10:rg r 10 = .ptr pm 0
 ex:∃ a L0 L1 k n,rg r 12 = .int .i64 n∧LawA p q nb cells ps pm bl bb c k a L1 bd (E2 b3 b6) hp∧Got b3 b6 c x hp∧k≤100∧RS c a L0 L1 900∧Gd c a (fun _=>False)∧((n = -1∧L0=L1)∨∃ t,0≤n∧n < c.st∧rg r 13=S (mRd c L0 n).1∧L1=mWr c L0 n t∧mWrE c n t=0)
theorem Cut.regs {b3 b6 p q nb:Nat} {cells:List AV} {ps:List Nat} {pm bl bb:Nat} {c:Cfg} {bd:List Bool} {x:CrD} {r r':Regs} {hp:Heap} (C:Cut b3 b6 p q nb cells ps pm bl bb c bd x r hp) (h6:rg r' 6=rg r 6) (h7:rg r' 7=rg r 7) (h10:rg r' 10=rg r 10) (h12:rg r' 12=rg r 12) (h13:rg r' 13=rg r 13):Cut b3 b6 p q nb cells ps pm bl bb c bd x r' hp:=by
 obtain ⟨r6,r7,r10,a,L0,L1,k,n,r12,HA,g,hk,R,G,hc⟩:=C
 exact ⟨h6.trans r6,h7.trans r7,h10.trans r10,a,L0,L1,k,n,h12.trans r12,HA,g,hk,R,G,hc.imp_right fun ⟨t,q1,q2,q3,q4⟩=>⟨t,q1,q2,h13.trans q3,q4⟩⟩
structure Lc2 (b3 b6 p q nb:Nat) (cells:List AV) (ps:List Nat) (pv pm bl bb:Nat) (c:Cfg) (bd:List Bool) (ws:List OpD) (x:CrD) (i:Nat) (r:Regs) (hp:Heap):Prop where
 le:i≤ws.length
 r4:rg r 4=TR OpC ws
 r8:rg r 8 = .ptr pv 0
 r14:rg r 14 = .int .i64 i
 ex:(Cut b3 b6 p q nb cells ps pm bl bb c bd x r hp∧∃ n,rg r 12 = .int .i64 n∧0≤n)∨(rg r 6 = .ptr b6 0∧rg r 7 = .ptr p 0∧rg r 10 = .ptr pm 0∧rg r 12 = .int .i64 (-1)∧∃ a sq L,LawE p q nb cells ps pv pm bl bb c 0 a sq L bd (E2 b3 b6) hp∧Got b3 b6 c x hp∧VS c a sq L (fun _=>False)∧Gd c a (fun _=>False)∧0≤sq∧sq≤i)
theorem wpc_cutE {P:Program} {cd:Code} {Q:Out→Regs→Heap→Prop} {r:Regs} {h:Heap} (n:Nat) (M:Regs→Heap→Prop) (h1:wpc P cd (fun o r' h'=>o = .exit n∧M r' h') r h) (h2:∀ r' h',M r' h'→Q (.exit n) r' h'):wpc P cd Q r h :=
 wpc_mono cd _ _ (by rintro o r' h' ⟨rfl,k⟩;exact h2 _ _ k) r h h1
theorem volumeCrash_pure (c:Cfg) (ws:List OpD) (fs:List Int) (x:CrD) (_:CfW c) (_:ws.length < 2 ^ 48) (_:∀ x∈ws,OpW x) (_:fs.length < 2 ^ 48) (_:∀ x∈fs,(Lit.int .i64 x).wf=true) (_:(Lit.int .i64 x.f).wf=true) (hkp:x.kp.length < 2 ^ 48) (_:(Lit.int .i64 x.ag).wf=true) (hmo:x.mo.length < 2 ^ 48) :
  CPure Tryz.prog 8 [.agg (CsC c ws fs x)] (.bool true):=by
 refine CPure.of_sem (k:=1) ?_
 refine CSem.body hm Tryz.func8 rfl (by kernel_rfl) (by kernel_rfl) (by simp [Tryz.ntmps8]) ?_
 have haggC:aggT Tryz.prog 23=some true:=by kernel_rfl
 have hzC:szT Tryz.prog 23=some 5:=by kernel_rfl
 have haggX:aggT Tryz.prog 64=some true:=by kernel_rfl
 have hzX:szT Tryz.prog 64=some 4:=by kernel_rfl
 have haggO:aggT Tryz.prog 47=some true:=by kernel_rfl
 have hzO:szT Tryz.prog 47=some 4:=by kernel_rfl
 have hzzO:zeroAV Tryz.prog 47=some (.agg [.int .i64 0,.int .i64 0,.int .i64 0,S []]):=by kernel_rfl
 have hel:(elT Tryz.prog 42).isSome=true:=by kernel_rfl
 have hez:(elT Tryz.prog 42).bind (szT Tryz.prog)=some 4:=by kernel_rfl
 have hout:∀ (h:Heap) (K:AV→Heap→Prop),K (.bool true) h→Call Tryz.prog 11 [] h K:=out16
 refine wpc_st (fun r h=>rg r 1 = .ptr 0 0∧h=Heap.empty.alloc (CsC c ws fs x)) ?_ (by simp [AV.cells,CsC];rfl)
 rintro r _ ⟨r1,rfl⟩
 rw [wpc_seq]
 refine cs1 rfl r1 (Heap.get_alloc_same Heap.empty _) fun r H1 b3 b6 r3 r4 r5 r6 g3 g6 Ex=> ?_
 have lp1:H1.lp=none:=Ex.lp
 have g:Got b3 b6 c x H1:=⟨g3,g6⟩
 clear g3 g6 Ex r1
 have hl3:=Heap.get_lt g.g3
 have hl6:=Heap.get_lt g.g6
 simp [r3,g.g3,loadX_agg haggC,hzC,takeN]
 refine (rtiny_call c _).use ?_
 by_cases hT:SmL c
 rotate_left
 ·simp [hT]
  refine hout _ _ ?_
  simp
 by_cases hw8:(8:Int) < ws.length
 ·simp [hT,r4,hw8,lenX_TR hel]
  refine hout _ _ ?_
  simp
 by_cases hfm:c.m < fs.length
 ·simp [hT,r3,r4,r5,hw8,lenX_TR hel,fieldAddrX,g.g3,hfm]
  refine hout _ _ ?_
  simp
 by_cases hx0:x.f < 0
 ·simp [hT,r3,r4,r5,r6,hw8,lenX_TR hel,fieldAddrX,g.g3,g.g6,hfm,hx0]
  refine hout _ _ ?_
  simp
 by_cases hx1:1000 < x.f
 ·simp [hT,r3,r4,r5,r6,hw8,lenX_TR hel,fieldAddrX,g.g3,g.g6,hfm,hx0,hx1]
  refine hout _ _ ?_
  simp
 by_cases hx2:1000 < x.ag
 ·simp [hT,r3,r4,r5,r6,hw8,lenX_TR hel,fieldAddrX,g.g3,g.g6,hfm,hx0,hx1,hx2]
  refine hout _ _ ?_
  simp
 simp [hT,r3,r4,r5,r6,hw8,lenX_TR hel,fieldAddrX,g.g3,g.g6,hfm,hx0,hx1,hx2,loadX_agg haggC,hzC,takeN]
 obtain ⟨hC,t1,t2,t3,t4⟩:=hT
 have h0:=conf_sl hC
 refine (lawE_start (E:=E2 b3 b6) hC t1 (fun y hy=>by rcases hy with rfl|rfl;exact hl3;exact hl6) lp1).then ?_
 rintro _ H2 ⟨p,rfl,X2,lp2,q,nb,cells,ps,A2⟩
 have g2:=g.ext X2
 simp [r3,g2.g3,loadX_agg haggC,hzC,takeN]
 refine (lawE_make hC ⟨t1,t3⟩ lp2 A2).then ?_
 rintro _ H3 ⟨pv,rfl,K3,lp3,gv3,hpv,A3,Q3⟩
 have g3:=g2.fr fun y hy=>K3.get y hy
 obtain ⟨_,_,V0,lf0,hl0,hal0⟩:=VS.make hC
 simp [r3,g3.g3,loadX_agg haggC,hzC,takeN]
 refine (lawE_model hC lp3 gv3 (fun y hy=>by have:=A2.lt hy;omega) A3 Q3 hl0).then ?_
 rintro _ H4 ⟨X4,pm,bl,bb,rfl,HL⟩
 have g4:=g3.ext X4
 have hall:=aliveL_all hal0
 simp
 have hcnt0:c.k+c.m≤((aliveL (vmakeR (freshA c) c 7).ar (vmakeR (freshA c) c 7).ar.disks.length).length:Int)+(0:Nat):=by
  have e:freshA c=newArr (c.k+c.m) (1+c.sl+c.st) (c.k * c.sh+42):=rfl
  rw [e,hall]
  omega
 generalize List.replicate (c.k+c.m).toNat false=bd at HL ⊢
 have e0:freshA c=newArr (c.k+c.m) (1+c.sl+c.st) (c.k * c.sh+42):=rfl
 rw [←e0] at V0
 generalize List.replicate c.st.toNat ([]:Txt)=L0 at HL V0
 generalize (vmakeR (freshA c) c 7).ar=a0 at HL V0 hcnt0
 refine wpc_loop (Lc1 b3 b6 p q nb cells ps pv pm bl bb c L0 bd ws fs x) (fs.length - ·) ?_ 0 ?_
 rotate_left
 ·exact ⟨by omega,by simpa using r4,by simpa using r5,by simpa using r6,by simp,by simp,by simp,by simp,a0,HL,g4,V0,hcnt0⟩
 clear lf0 hl0 hal0 hall hcnt0 V0 HL g4 X4 A3 Q3 gv3 lp3 g3 K3 g2 X2 lp2 A2 g r3 r4 r5 r6 hl3 hl6
 rintro i r hp ⟨le,r4,r5,r6,r7,r8,r10,r11,a,HL,g,V,hcnt⟩
 rcases Nat.lt_or_eq_of_le le with hlt|heq
 ·have hlt':(i:Int) < fs.length:=by omega
  have hw1:IntKind.i64.wrap ((i:Int)+1)=(i:Int)+1:=wrap64 (by omega) (by omega)
  have hcn:=fail_cnt V fs[i]
  simp [r5,r7,r11,hlt',hlt]
  refine (HL.fail fs[i]).then ?_
  rintro _ h1 ⟨rfl,HL1,F1⟩
  simp [r11,hw1]
  exact ⟨i+1,by omega,by omega,by simpa using r4,by simpa using r5,by simpa using r6,by simpa using r7,by simpa using r8,by simpa using r10,by simp,_,HL1,g.fr F1,(V.fail fs[i]).1,by push_cast;omega⟩
 subst heq
 have G:=V.gdF (show c.k≤((aliveL a a.disks.length).length:Int) by omega)
 simp [r5,r6,r7,r11,fieldAddrX,g.g6]
 obtain ⟨Vf,lenf,alf⟩:VS c (a.fuse x.f) 0 L0 (fun _=>False)∧(a.fuse x.f).disks.length=a.disks.length∧∀ d:Nat,(a.fuse x.f).alive (d:Int)=a.alive (d:Int):=by
  rcases V.fuse x.f with ⟨h1,h2⟩|⟨_,h1,h2,h3⟩
  ·exact ⟨h1,h2.len,fun d=>h2.al d⟩
  ·exact ⟨h1,h2,h3⟩
 refine (afuse_sem HL.at_ x.f).then ?_
 rintro _ H5 ⟨rfl,A5,K5⟩
 obtain ⟨HL5,F5⟩:=HL.turn K5 A5 (HL.q.fuse (show x.f < 2 ^ 62 by omega)) lenf
 have g5:=g.fr F5
 have G5:=G.of_al lenf alf
 generalize a.fuse x.f=a5 at HL5 Vf G5
 simp
 refine wpc_cutE 2 (Cut b3 b6 p q nb cells ps pm bl bb c bd x) ?_ ?_
 ·refine wpc_loop (Lc2 b3 b6 p q nb cells ps pv pm bl bb c bd ws x) (ws.length - ·) ?_ 0 ?_
  rotate_left
  ·exact ⟨by omega,by simpa using r4,by simpa using r8,by simp,.inr ⟨by simpa using r6,by simpa using r7,by simpa using r10,by simp,a5,0,L0,HL5,g5,Vf,G5,by omega,by omega⟩⟩
  clear HL5 F5 g5 G5 Vf A5 K5 lenf alf r4 r5 r6 r7 r8 r10 r11 HL g V hcnt G le
  rintro i r hp ⟨le,r4,r8,r14,hex⟩
  rcases hex with ⟨C,n,hn,hn0⟩|⟨r6,r7,r10,r12,a,sq,L,HL,g,V,G,s0,s1⟩
  ·have hnn:¬n < 0:=by omega
   rcases Nat.lt_or_eq_of_le le with hlt|heq
   ·have hlt':(i:Int) < ws.length:=by omega
    simp [r4,r14,hlt',hn,lenX_TR hel,hnn]
    exact C.regs (by simp) (by simp) (by simp) (by simp) (by simp)
   ·subst heq
    simp [r4,r14,lenX_TR hel]
    exact C.regs (by simp) (by simp) (by simp) (by simp) (by simp)
  rcases Nat.lt_or_eq_of_le le with hlt|heq
  rotate_left
  ·subst heq
   simp [r4,r14,lenX_TR hel]
   exact ⟨by simpa using r6,by simpa using r7,by simpa using r10,a,L,L,0,-1,by simpa using r12,HL.toA,g,by omega,V.rs ⟨by omega,by decide⟩ L,G,.inl ⟨rfl,rfl⟩⟩
  have hlt':(i:Int) < ws.length:=by omega
  have hw1:IntKind.i64.wrap ((i:Int)+1)=(i:Int)+1:=wrap64 (by omega) (by omega)
  have htk:takeN ((ws.map OpC).flatten.drop (i * 4)) 0 4=some (OpC ws[i]):=by
   have:=takeR_at (g:=OpC) (z:=4) opC_len (rest:=[]) hlt
   rwa [List.append_nil] at this
  have ea:∀ zs,(hp.alloc zs).get hp.next=some zs:=fun zs=>Heap.get_alloc_same hp zs
  simp [r4,r12,r14,hlt,hlt',lenX_TR hel,indexAddrX_TR hez,loadX_iptA haggO hzO,htk,hzzO,AV.cells,storeX_agg,hzO,ea]
  generalize ws[i]=o at htk ⊢
  refine ⟨⟨opC_len o,fun y hy=>List.all_eq_true.1 (show (OpC o).all AV.atom=true from rfl) y hy⟩,?_⟩
  simp only [show putN [AV.int IntKind.i64 0,AV.int IntKind.i64 0,AV.int IntKind.i64 0,S []] 0 (OpC o)=some (OpC o) from rfl,Has_some]
  obtain ⟨HL1,go,F1⟩:=HL.take o [AV.int IntKind.i64 0,AV.int IntKind.i64 0,AV.int IntKind.i64 0,S []] rfl
  have g1:=g.fr F1
  generalize (hp.alloc [AV.int IntKind.i64 0,AV.int IntKind.i64 0,AV.int IntKind.i64 0,S []]).put hp.next (OpC o)=H1 at HL1 go g1 ⊢
  generalize hp.next=bo at HL1 go ⊢
  clear htk ea HL F1 g
  simp [r10,fieldAddrX,go]
  refine (mread_sem HL1.md V.ll o.n).use ?_
  simp [r8,fieldAddrX,go]
  refine (HL1.write hC (by decide) s0 (by omega) o.n o.s).then ?_
  rintro _ H2 ⟨rfl,HL2,F2⟩
  have go2:=(F2 bo (.inr rfl)).trans go
  have g2:=g1.fr fun y hy=>F2 y (.inl hy)
  obtain ⟨S,w⟩:=V.writeF G.al s0 (by omega) o.n o.s
  have hl5:=HL2.len
  rw [S.len] at hl5
  rcases w with ⟨w1,w2,w3⟩|⟨w1,w2,w3,w4⟩
  ·have hn9:¬mWrE c o.n o.s=9:=by unfold mWrE;split;decide;split<;>decide
   rw [w1]
   simp [hn9,r10,fieldAddrX,go2]
   refine (HL2.mwrite V.ll o.n o.s).then ?_
   rintro _ H3 ⟨rfl,HL3,F3⟩
   have hsq:(vwriteR a 7 c sq o.n o.s).2.1≤sq+1∧0≤(vwriteR a 7 c sq o.n o.s).2.1:=by rw [w2];split<;>omega
   simp [r14,hw1]
   exact ⟨i+1,by omega,by omega,by simpa using r4,by simpa using r8,by simp,.inr ⟨by simpa using r6,by simpa using r7,by simpa using r10,by simpa using r12,_,_,_,(HL3.mono (HL3.q.qt w3.qt)).less fun y hy=> .inl hy,g2.fr fun y hy=>F3 y (.inl hy),w3,G.stp S,hsq.2,by omega⟩⟩
  ·rw [w1]
   simp [r10,fieldAddrX,go2]
   refine (HL2.mwrite V.ll o.n o.s).then ?_
   rintro _ H3 ⟨rfl,HL3,F3⟩
   have hn:¬(o.n < 0∨c.st≤o.n):=fun h=>by unfold mWrE at w2;rw [if_pos h] at w2;cases w2
   simp [r14,hw1]
   exact ⟨i+1,by omega,by omega,by simpa using r4,by simpa using r8,by simp,.inl ⟨⟨by simpa using r6,by simpa using r7,by simpa using r10,_,L,_,_,o.n,by simp,(HL3.less fun y hy=> .inl hy).toA,g2.fr fun y hy=>F3 y (.inl hy),by omega,w4,G.stp S,.inr ⟨o.s,by omega,by omega,by simp,rfl,w2⟩⟩,o.n,by simp,by omega⟩⟩
 clear HL5 F5 g5 G5 Vf A5 K5 lenf alf r4 r5 r6 r7 r8 r10 r11 HL g V hcnt G le
 rintro r hp ⟨r6,r7,r10,a,L0',L1,k,n,r12,HA,g,hk,R,G,hcase⟩
 have hro:=HA.reopened (by omega) t3 R G x (by omega) (by omega) (by omega)
 simp only [CrC] at hro
 simp [r6,r7,g.g6,loadX_agg haggX,hzX,takeN]
 refine hro.then ?_
 rintro _ H6 ⟨pw,a',sq,L',rfl,HE,F,V,G',hL,s0,s1,lf⟩
 rcases hcase with ⟨rfl,rfl⟩|⟨t,n0,n1,r13,rfl,w2⟩
 ·have e:L'=L0':=by rcases hL with h|h<;>exact h
  subst e
  have q10:=r10
  simp [r12,r10]
  refine (HE.reads hC (by decide) V G').use ?_
  obtain ⟨w1,w2,w3,w4⟩:=V.write lf G'.al (by omega) 0 [122]
  simp [q10]
  refine (HE.write hC (by decide) s0 (by omega) 0 [122]).then ?_
  rintro _ H7 ⟨rfl,HE7,F7⟩
  simp [q10]
  refine (HE7.mwrite V.ll 0 [122]).then ?_
  rintro _ H8 ⟨rfl,HE8,F8⟩
  rw [w1]
  simp [q10]
  refine (HE8.reads hC (by have:=HE.len;omega) w3 (G'.stp w4)).use ?_
  simp
  refine hout _ _ ?_
  simp
 ·obtain ⟨j,rfl⟩:=Int.eq_ofNat_of_zero_le n0
  have hll:=V.ll
  have hjl:j < L'.length:=by omega
  have e1:mWr c L0' (j:Int) t=L0'.set j t:=by unfold mWr;rw [if_pos w2,Int.toNat_natCast]
  rw [e1] at hL HE
  have hj0:j < L0'.length:=by
   rcases hL with h|h
   ·rw [←h];exact hjl
   ·rw [h,List.length_set] at hjl;exact hjl
  have hrd:mRd c L' (j:Int)=(L'[j],0):=by unfold mRd;rw [if_neg (by omega),Int.toNat_natCast,List.getElem?_eq_getElem hjl];rfl
  have hro0:(mRd c L0' (j:Int)).1=L0'[j]:=by unfold mRd;rw [if_neg (by omega),Int.toNat_natCast,List.getElem?_eq_getElem hj0];rfl
  rw [hro0] at r13
  have gm:=HE.md.gm
  simp only [mdC] at gm
  have gl:=HE.md.gl
  have hbll:=Heap.get_lt gl
  have hset:(L0'.set j t).set j L'[j]=L':=by
   rcases hL with h|h
   ·subst h
    rw [List.set_set,List.set_getElem_self]
   ·have h2:(L0'.set j t).set j ((L0'.set j t)[j]'(by rw [List.length_set];exact hj0))=L0'.set j t:=List.set_getElem_self _
    simp only [h]
    exact h2
  have hval:L'[j]=L0'[j]∨L'[j]=t:=by
   rcases hL with h|h
   ·subst h;exact .inl rfl
   ·right;simp only [h];simp
  obtain ⟨HE5,F5⟩:=HE.setL j L'[j]
  rw [hset] at HE5
  simp [r12]
  refine (vread_sem (HE.vol hC (by decide)) HE.gv HE.at_ HE.lp (j:Int)).use ?_
  rw [V.read G',hrd]
  have q10:=r10
  have hH:H6.put bl ((L0'.map S).set j (S L'[j]))=H6.put bl (((L0'.set j t).map S).set j (S L'[j])):=by rw [List.map_set,List.set_set]
  have gl':H6.get bl=some ((L0'.map S).set j (S t)):=by rw [gl,List.map_set]
  by_cases hv:L'[j]=L0'[j]
  ·simp only [hv] at hH HE5 F5 ⊢
   simp [r10,r13,r12,fieldAddrX,gm,gl',hj0,hbll]
   rw [hH]
   generalize H6.put bl (((L0'.set j t).map S).set j (S L0'[j]))=H65 at HE5 F5
   refine (HE5.reads hC (by decide) V G').use ?_
   obtain ⟨w1,w2,w3,w4⟩:=V.write lf G'.al (by omega) 0 [122]
   simp [q10]
   refine (HE5.write hC (by decide) s0 (by omega) 0 [122]).then ?_
   rintro _ H7 ⟨rfl,HE7,F7⟩
   simp [q10]
   refine (HE7.mwrite V.ll 0 [122]).then ?_
   rintro _ H8 ⟨rfl,HE8,F8⟩
   rw [w1]
   simp [q10]
   refine (HE8.reads hC (by have:=HE5.len;omega) w3 (G'.stp w4)).use ?_
   simp
   refine hout _ _ ?_
   simp
  ·have ht:L'[j]=t:=hval.resolve_left hv
   rw [ht] at hv
   simp only [ht] at hH HE5 F5 ⊢
   simp [r10,r13,r12,fieldAddrX,gm,gl',hj0,hbll,hv]
   rw [hH]
   generalize H6.put bl (((L0'.set j t).map S).set j (S t))=H65 at HE5 F5
   refine (HE5.reads hC (by decide) V G').use ?_
   obtain ⟨w1,w2,w3,w4⟩:=V.write lf G'.al (by omega) 0 [122]
   simp [q10]
   refine (HE5.write hC (by decide) s0 (by omega) 0 [122]).then ?_
   rintro _ H7 ⟨rfl,HE7,F7⟩
   simp [q10]
   refine (HE7.mwrite V.ll 0 [122]).then ?_
   rintro _ H8 ⟨rfl,HE8,F8⟩
   rw [w1]
   simp [q10]
   refine (HE8.reads hC (by have:=HE5.len;omega) w3 (G'.stp w4)).use ?_
   simp
   refine hout _ _ ?_
   simp
end Go.Proofs.YtjcnihmbpakipaaGreatDoor.X
