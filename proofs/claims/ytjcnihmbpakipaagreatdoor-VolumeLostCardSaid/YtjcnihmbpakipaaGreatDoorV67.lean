/-
  VolumeLost.
-/
import Derived.Test.YtjcnihmbpakipaaGreatDoorVG
namespace Go.Proofs.YtjcnihmbpakipaaGreatDoor.X
open Go.RowKit F
set_option maxRecDepth 100000
set_option linter.unusedSimpArgs false
set_option linter.unusedVariables false
structure WsE (b p q nb:Nat) (cells:List AV) (ps:List Nat) (pv pm bl bb:Nat) (c:Cfg) (bd:List Bool) (i:Nat) (hp:Heap):Prop where
 ex:∃ a sq L,LawH b p q nb cells ps pv pm bl bb c (100+i * 14) a sq L bd hp∧VS c a sq L (fun _=>False)∧a.left < 0∧0≤sq∧sq≤i∧∀ d:Nat,d < a.disks.length→a.alive (d:Int)=true
structure Ls1 (b p q nb:Nat) (cells:List AV) (ps:List Nat) (pv pm bl bb:Nat) (c:Cfg) (bd:List Bool) (ws:List OpD) (fs:List Int) (i:Nat) (r:Regs) (hp:Heap):Prop where
 le:i≤ws.length
 r1:rg r 1=TR OpC ws
 r2:rg r 2=IL fs
 r3:rg r 3 = .ptr b 0
 r7:rg r 7 = .ptr p 0
 r8:rg r 8 = .ptr pv 0
 r10:rg r 10 = .ptr pm 0
 r11:rg r 11 = .int .i64 i
 ex:WsE b p q nb cells ps pv pm bl bb c bd i hp
structure Ls2 (b p q nb:Nat) (cells:List AV) (ps:List Nat) (pv pm bl bb:Nat) (c:Cfg) (bd:List Bool) (k:Nat) (fs:List Int) (i:Nat) (r:Regs) (hp:Heap):Prop where
 le:i≤fs.length
 r2:rg r 2=IL fs
 r3:rg r 3 = .ptr b 0
 r7:rg r 7 = .ptr p 0
 r8:rg r 8 = .ptr pv 0
 r10:rg r 10 = .ptr pm 0
 r12:rg r 12 = .int .i64 i
 ex:∃ a sq L,LawH b p q nb cells ps pv pm bl bb c k a sq L bd hp∧VS c a sq L (fun _=>False)∧0≤sq∧sq < 2 ^ 61
structure Ls3 (b p pv pm:Nat) (a:Arr) (N:Nat) (H:Heap) (i:Nat) (r:Regs) (hp:Heap):Prop where
 le:i≤N
 r3:rg r 3 = .ptr b 0
 r7:rg r 7 = .ptr p 0
 r8:rg r 8 = .ptr pv 0
 r10:rg r 10 = .ptr pm 0
 r13:rg r 13 = .int .i64 ((List.range i).countP fun d:Nat=>a.alive (d:Int):Nat)
 r14:rg r 14 = .int .i64 i
 h:H=hp
structure Ls4 (b p pv pm:Nat) (C:Int) (N:Nat) (H:Heap) (i:Nat) (r:Regs) (hp:Heap):Prop where
 le:i≤N
 r3:rg r 3 = .ptr b 0
 r8:rg r 8 = .ptr pv 0
 r10:rg r 10 = .ptr pm 0
 r13:rg r 13 = .int .i64 C
 r15:rg r 15 = .int .i64 i
 h:H=hp
theorem volumeLost_pure (c:Cfg) (ws:List OpD) (fs:List Int) (_:CfW c) (_:ws.length < 2 ^ 48) (_:∀ x∈ws,OpW x) (_:fs.length < 2 ^ 48) (_:∀ x∈fs,(Lit.int .i64 x).wf=true) :
  CPure Tryz.prog 4 [CfA c,TR OpC ws,IL fs] (.bool true):=by
 refine CPure.of_sem (k:=1) ?_
 refine CSem.body hm Tryz.func4 rfl (by kernel_rfl) (by kernel_rfl) (by simp [Tryz.ntmps4]) ?_
 have haggC:aggT Tryz.prog 23=some true:=by kernel_rfl
 have hzC:szT Tryz.prog 23=some 5:=by kernel_rfl
 have hel:(elT Tryz.prog 42).isSome=true:=by kernel_rfl
 have hez:(elT Tryz.prog 42).bind (szT Tryz.prog)=some 4:=by kernel_rfl
 have hcC:(CfA c).cells=[.int .i64 c.k,.int .i64 c.m,.int .i64 c.sh,.int .i64 c.st,.int .i64 c.sl]:=rfl
 have hout:∀ (h:Heap) (K:AV→Heap→Prop),K (.bool true) h→Call Tryz.prog 11 [] h K:=out16
 refine wpc_st (fun r h=>rg r 1=TR OpC ws∧rg r 2=IL fs∧rg r 3 = .ptr 0 0∧h=Heap.empty.alloc [.int .i64 c.k,.int .i64 c.m,.int .i64 c.sh,.int .i64 c.st,.int .i64 c.sl]) ?_ (by simp [hcC])
 rintro r _ ⟨r1,r2,r3,rfl⟩
 have g1:(Heap.empty.alloc [.int .i64 c.k,.int .i64 c.m,.int .i64 c.sh,.int .i64 c.st,.int .i64 c.sl]).get 0=some [.int .i64 c.k,.int .i64 c.m,.int .i64 c.sh,.int .i64 c.st,.int .i64 c.sl]:=Heap.get_alloc_same Heap.empty _
 have lp1:(Heap.empty.alloc [.int .i64 c.k,.int .i64 c.m,.int .i64 c.sh,.int .i64 c.st,.int .i64 c.sl]).lp=none:=rfl
 generalize (Heap.empty.alloc [.int .i64 c.k,.int .i64 c.m,.int .i64 c.sh,.int .i64 c.st,.int .i64 c.sl])=H1 at g1 lp1 ⊢
 simp [r3,g1,loadX_agg haggC,hzC,takeN]
 refine (rtiny_call c _).use ?_
 by_cases hT:SmL c
 rotate_left
 ·simp [hT]
  refine hout _ _ ?_
  simp
 by_cases hw8:(8:Int) < ws.length
 ·simp [hT,r1,hw8,lenX_TR hel]
  refine hout _ _ ?_
  simp
 by_cases hf10:(10:Int) < fs.length
 ·simp [hT,r1,r2,hw8,lenX_TR hel,hf10]
  refine hout _ _ ?_
  simp
 simp [hT,r1,r2,hw8,lenX_TR hel,hf10,r3,g1,loadX_agg haggC,hzC,takeN]
 obtain ⟨hC,t1,t2,t3,t4⟩:=hT
 have h0:=conf_sl hC
 refine (law_start hC ⟨t1,t3⟩ g1 lp1).then ?_
 rintro _ H2 ⟨p,rfl,g2,lp2,q,nb,cells,ps,A2⟩
 simp [r3,g2,loadX_agg haggC,hzC,takeN]
 refine (law_make hC ⟨t1,t3⟩ g2 lp2 A2).then ?_
 rintro _ H3 ⟨pv,rfl,g3,lp3,gv3,hne,A3,Q3⟩
 obtain ⟨_,_,V0,lf0,hl0,hal0⟩:=VS.make hC
 simp [r3,g3,loadX_agg haggC,hzC,takeN]
 refine (law_model hC g3 lp3 gv3 hne A3 Q3 hl0).then ?_
 rintro _ H4 ⟨pm,bl,bb,rfl,LH⟩
 simp
 generalize List.replicate (c.k+c.m).toNat false=bd at LH ⊢
 refine wpc_loop (Ls1 0 p q nb cells ps pv pm bl bb c bd ws fs) (ws.length - ·) ?_ 0 ?_
 rotate_left
 ·exact ⟨by omega,by simpa using r1,by simpa using r2,by simpa using r3,by simp,by simp,by simp,by simp,⟨_,_,_,LH,V0,lf0,by omega,by omega,hal0⟩⟩
 clear V0 lf0 hl0 hal0 LH g3 gv3 A3 Q3 g2 A2 g1 r1 r2 r3
 rintro i r hp ⟨le,r1,r2,r3,r7,r8,r10,r11,⟨a,sq,L,LH,V,lf,s0,s1,hal⟩⟩
 rcases Nat.lt_or_eq_of_le le with hlt|heq
 ·have hlt':(i:Int) < ws.length:=by omega
  have hw1:IntKind.i64.wrap ((i:Int)+1)=(i:Int)+1:=wrap64 (by omega) (by omega)
  have hat:=ops_at hlt
  have hlen:=LH.len
  obtain ⟨e1,e2,V1,S1⟩:=V.write lf (by rw [aliveL_all hal];omega) (by omega) ws[i].n ws[i].s
  simp [r1,r11,hlt',lenX_TR hel]
  refine wpc_draw 11 (by kernel_rfl) ?_
  simp [r1,r8,r11,hlt',indexAddrX_TR hez,hat,fieldAddrX]
  refine (LH.write hC (by omega) s0 (by omega) ws[i].n ws[i].s).then ?_
  rintro _ h1 ⟨rfl,LH1⟩
  simp
  refine wpc_draw 11 (by kernel_rfl) ?_
  simp [r1,r10,r11,hlt',indexAddrX_TR hez,hat,fieldAddrX]
  refine (LH1.mwrite V.ll ws[i].n ws[i].s).then ?_
  rintro _ h2 ⟨rfl,LH2⟩
  simp [r11,hw1]
  have hs:(vwriteR a 7 c sq ws[i].n ws[i].s).2.1≤sq+1∧0≤(vwriteR a 7 c sq ws[i].n ws[i].s).2.1:=by rw [e2];split<;>omega
  refine ⟨i+1,by omega,by omega,by simpa using r1,by simpa using r2,by simpa using r3,by simpa using r7,by simpa using r8,by simpa using r10,by simp,⟨_,_,_,⟨LH2.gc,LH2.gv,LH2.md,LH2.at_,LH2.lp,LH2.q.mono (by omega),LH2.len,LH2.n1,LH2.n2⟩,V1,S1.neg lf,hs.2,by omega,fun d hd=> ?_⟩⟩
  rw [S1.al]
  exact hal d (by rw [←S1.len];exact hd)
 subst heq
 simp [r1,r11,lenX_TR hel]
 refine wpc_loop (Ls2 0 p q nb cells ps pv pm bl bb c bd (100+ws.length * 14) fs) (fs.length - ·) ?_ 0 ?_
 rotate_left
 ·exact ⟨by omega,by simpa using r2,by simpa using r3,by simpa using r7,by simpa using r8,by simpa using r10,by simp,⟨_,_,_,LH,V,s0,by omega⟩⟩
 clear LH V lf s0 s1 hal r1 r2 r3 r7 r8 r10 r11 le
 rintro i r hp ⟨le,r2,r3,r7,r8,r10,r12,a,sq,L,LH,V,s0,s1⟩
 rcases Nat.lt_or_eq_of_le le with hlt|heq
 ·have hlt':(i:Int) < fs.length:=by omega
  have hw1:IntKind.i64.wrap ((i:Int)+1)=(i:Int)+1:=wrap64 (by omega) (by omega)
  simp [r2,r7,r12,hlt',hlt]
  refine (LH.fail fs[i]).then ?_
  rintro _ h1 ⟨rfl,LH1⟩
  simp [r12,hw1]
  exact ⟨i+1,by omega,by omega,by simpa using r2,by simpa using r3,by simpa using r7,by simpa using r8,by simpa using r10,by simp,⟨_,_,_,LH1,(V.fail fs[i]).1,s0,s1⟩⟩
 subst heq
 simp [r2,r12]
 have hkm:IntKind.i64.wrap (c.k+c.m)=c.k+c.m:=wrap64 (by omega) (by omega)
 have hlen:=LH.len
 refine wpc_loop (Ls3 0 p pv pm a a.disks.length hp) (a.disks.length - ·) ?_ 0 ?_
 rotate_left
 ·exact ⟨by omega,by simpa using r3,by simpa using r7,by simpa using r8,by simpa using r10,by simp,by simp,rfl⟩
 clear r2 r3 r7 r8 r10 r12 le
 rintro i r hp' ⟨le,r3,r7,r8,r10,r13,r14,rfl⟩
 have gc:=LH.gc
 rcases Nat.lt_or_eq_of_le le with hlt|heq
 ·have hlt':(i:Int) < c.k+c.m:=by omega
  have hw1:IntKind.i64.wrap ((i:Int)+1)=(i:Int)+1:=wrap64 (by omega) (by omega)
  have hcl:(List.range i).countP (fun d:Nat=>a.alive (d:Int))≤i:=by
   have:=List.countP_le_length (p:=fun d:Nat=>a.alive (d:Int)) (l:=List.range i)
   rwa [List.length_range] at this
  have hw2:IntKind.i64.wrap (((List.range i).countP (fun d:Nat=>a.alive (d:Int)):Nat)+1:Int)=((List.range i).countP (fun d:Nat=>a.alive (d:Int)):Nat)+1:=wrap64 (by omega) (by omega)
  have hcs:(List.range (i+1)).countP (fun d:Nat=>a.alive (d:Int))=(List.range i).countP (fun d:Nat=>a.alive (d:Int))+if a.alive (i:Int)=true then 1 else 0:=by
   rw [List.range_succ,List.countP_append,List.countP_cons,List.countP_nil]
   simp
  simp [r3,r7,r14,fieldAddrX,gc,hkm,hlt']
  refine (aalive_sem LH.at_ i).use ?_
  by_cases hai:a.alive (i:Int)=true
  ·rw [if_pos hai] at hcs
   simp [hai,r13,r14,hw1,hw2]
   exact ⟨i+1,by omega,by omega,by simpa using r3,by simpa using r7,by simpa using r8,by simpa using r10,by simp [hcs],by simp,rfl⟩
  ·rw [if_neg hai] at hcs
   have hai':a.alive (i:Int)=false:=by simpa using hai
   simp [hai',r13,r14,hw1]
   exact ⟨i+1,by omega,by omega,by simpa using r3,by simpa using r7,by simpa using r8,by simpa using r10,by simp [hcs,r13],by simp,rfl⟩
 subst heq
 have hge:¬((a.disks.length:Int) < c.k+c.m):=by omega
 rw [←aliveL_cnt] at r13
 generalize hCn:((aliveL a a.disks.length).length:Int)=C at r13
 simp [r3,r14,fieldAddrX,gc,hkm,hge]
 have hst:((c.st.toNat:Nat):Int)=c.st:=by omega
 refine wpc_loop (Ls4 0 p pv pm C c.st.toNat hp) (c.st.toNat - ·) ?_ 0 ?_
 rotate_left
 ·exact ⟨by omega,by simpa using r3,by simpa using r8,by simpa using r10,by simpa using r13,by simp,rfl⟩
 clear r3 r7 r8 r10 r13 r14 le
 rintro i r hp' ⟨le,r3,r8,r10,r13,r15,rfl⟩
 have B:VolB (100+ws.length * 14) a c:=LH.vol hC (by omega)
 rcases Nat.lt_or_eq_of_le le with hlt|heq
 ·have hlt':(i:Int) < c.st:=by omega
  have hw1:IntKind.i64.wrap ((i:Int)+1)=(i:Int)+1:=wrap64 (by omega) (by omega)
  have hll:=V.ll
  have hlL:i < L.length:=by omega
  have hlL':(i:Int) < L.length:=by omega
  have hrd:=V.lost hlt'
  rw [hCn,List.getElem?_eq_getElem hlL] at hrd
  have gm:=LH.md.gm
  simp only [mdC] at gm
  have gl:=LH.md.gl
  simp [r3,r8,r15,fieldAddrX,gc,hlt']
  refine (vread_sem B LH.gv LH.at_ LH.lp i).use ?_
  rw [hrd]
  have hnb:∀ x y:Bool,binX Tryz.prog .neq 4 (.bool x) (.bool y)=some (.bool (x != y)):=fun x y=>by cases x<;>cases y<;>kernel_rfl
  by_cases hk:c.k≤C
  ·simp [hk,hnb,r3,r10,r13,r15,fieldAddrX,gc,gm,gl,hlL,hlL',hw1]
   exact ⟨i+1,by omega,by omega,by simpa using r3,by simpa using r8,by simpa using r10,by simpa using r13,by simp,rfl⟩
  ·simp [hk,hnb,r3,r10,r13,r15,fieldAddrX,gc,gm,gl,hlL,hlL',hw1]
   exact ⟨i+1,by omega,by omega,by simpa using r3,by simpa using r8,by simpa using r10,by simpa using r13,by simp,rfl⟩
 subst heq
 by_cases hk:C < c.k
 ·simp [r3,r8,r13,r15,fieldAddrX,gc,hst,hk]
  refine (LH.write hC (by omega) s0 s1 0 []).then ?_
  rintro _ h1 ⟨rfl,LH1⟩
  rw [V.few (by rw [hCn];exact hk)]
  simp
  refine hout _ _ ?_
  simp
 ·simp [r3,r8,r13,r15,fieldAddrX,gc,hst,hk]
  refine hout _ _ ?_
  simp
end Go.Proofs.YtjcnihmbpakipaaGreatDoor.X
