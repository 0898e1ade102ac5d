/-
  VolumeScripts.
-/
import Derived.Test.YtjcnihmbpakipaaGreatDoorV71
namespace Go.Proofs.YtjcnihmbpakipaaGreatDoor.X
open Go.RowKit F
set_option maxRecDepth 100000
set_option linter.unusedSimpArgs false
set_option linter.unusedVariables false
theorem SS.turn {c:Cfg} {a a':Arr} {sq sq':Int} {L L':List Txt} {bd:List Bool} (s:SS c a sq L bd) (V:VS c a' sq' L' (bdP bd)) (S:Stp a a'):SS c a' sq' L' bd :=
 ⟨V,S.neg s.lf,s.bl,by rw [S.len];exact s.al,fun d h=>by rw [S.al];exact s.gd d h,s.few⟩
section
variable {p q nb:Nat} {cells:List AV} {ps:List Nat} {pv pm bl bb:Nat} {c:Cfg} {k:Nat} {a:Arr} {sq:Int} {L:List Txt} {bd:List Bool} {E:Nat→Prop} {hp:Heap} {bad:Nat→Prop}
theorem LawE.open_ (H:LawE p q nb cells ps pv pm bl bb c k a sq L bd E hp) (hst:c.st≤6) (V:VS c a sq L bad) (G:Gd c a bad) (lf:a.left < 0) (hs:sq+1 < 36028797018963968) :
  CSem Tryz.prog 22 [.ptr p 0,.int .i64 7] hp fun x h'=> ∃ pw a',x = .tup [.ptr pw 0,.int .i64 0]∧LawE p q nb cells ps pw pm bl bb c 0 a' sq L bd E h'∧h'.get pv=some (volC p c 7 sq)∧Fr E hp h'∧VS c a' sq L bad∧Stp a a':=by
 refine (law_open hst V G lf hs H.q H.at_ H.lp).mono ?_
 rintro x h' ⟨pw,rfl,hpw,gw,A,K,lp,Q,V1,S⟩
 have h1:=Heap.get_lt H.md.gm
 have h2:=Heap.get_lt H.md.gl
 have h3:=Heap.get_lt H.md.gb
 refine ⟨pw,_,rfl,⟨gw,H.md.keep K (.inl (.inr (.inl rfl))) (.inl (.inr (.inr (.inl rfl)))) (.inl (.inr (.inr (.inr rfl)))),A.mono fun x hx=> ?_,lp,Q,by rw [S.len];exact H.len,⟨by omega,by omega,by omega⟩,fun x hx=> ?_⟩,K.got (.inl (.inl rfl)) H.gv,fun x hx=>K.get x (.inr hx),V1,S⟩
 ·rcases hx with (rfl|rfl|rfl|rfl)|hx
  ·exact .inr rfl
  ·exact .inl (.inl (.inr (.inl rfl)))
  ·exact .inl (.inl (.inr (.inr (.inl rfl))))
  ·exact .inl (.inl (.inr (.inr (.inr rfl))))
  ·exact .inl (.inr hx)
 ·obtain ⟨_,e2,e3,e4⟩:=H.ne x hx
  have:=H.at_.lt (.inr hx)
  exact ⟨by omega,e2,e3,e4⟩
theorem LawE.take (H:LawE p q nb cells ps pv pm bl bb c k a sq L bd E hp) (o:OpD) (zs:List AV) (hz:zs.length=4) :
  LawE p q nb cells ps pv pm bl bb c k a sq L bd (fun x=>E x∨x=hp.next) ((hp.alloc zs).put hp.next (OpC o))∧((hp.alloc zs).put hp.next (OpC o)).get hp.next=some [.int .i64 o.o,.int .i64 o.d,.int .i64 o.n,S o.s]∧Fr E hp ((hp.alloc zs).put hp.next (OpC o)):=by
 have hg:(hp.alloc zs).get hp.next=some zs:=Heap.get_alloc_same _ _
 refine ⟨(H.alloc zs).put (.inr rfl) _ hg,Heap.get_put_same hg,fun x hx=> ?_⟩
 have:x < hp.next:=H.at_.lt (.inr hx)
 rw [Heap.get_put_other hg (by omega),Heap.get_alloc,if_neg (by omega)]
def Sc16V (pv pm bo:Nat) (o:OpD) (e1 e2:Int):Nat→AV→Prop
 | 0,v=>v = .ptr pv 0
 | 1,v=>v = .ptr bo 2
 | 2,v=>v = .int .i64 o.n
 | 3,v=>v = .ptr bo 3
 | 4,v=>v=S o.s
 | 5,v=>v = .int .i64 e1
 | 6,v=>v = .ptr pm 0
 | 7,v=>v = .ptr bo 2
 | 8,v=>v = .int .i64 o.n
 | 9,v=>v = .ptr bo 3
 | 10,v=>v=S o.s
 | 11,v=>v = .int .i64 e2
 | 12,v=>v = .bool (decide (e1≠e2))
 | _,v=>True
def bif_ {α:Type} (b:Bool) (x y:α):α:=if b=true then x else y
theorem sc16 {cd:Code} (hc:(Tryz.f7.body).bind (findR 16)=some cd) {r:Regs} {Q:Out→Regs→Heap→Prop} {bo:Nat} {o:OpD} (r6:rg r 6 = .ptr pv 0) (r8:rg r 8 = .ptr pm 0) (r10:rg r 10 = .ptr bo 0)
  (H:LawE p q nb cells ps pv pm bl bb c 0 a sq L bd (fun x=>x=bo) hp) (go:hp.get bo=some [.int .i64 o.o,.int .i64 o.d,.int .i64 o.n,S o.s]) (hC:ConfP c) (hs0:0≤sq) (hs1:sq < 2 ^ 61) (hll:(L.length:Int)=c.st)
  (hQ:∀ r' h',(∀ d,(d < 57∨69 < d)→rg r' d=rg r d)→rg r' 69 = .bool (decide ((vwriteR a 7 c sq o.n o.s).2.2≠mWrE c o.n o.s))→LawE p q nb cells ps pv pm bl bb c (2 * a.disks.length) (vwriteR a 7 c sq o.n o.s).1 (vwriteR a 7 c sq o.n o.s).2.1 (mWr c L o.n o.s) bd (fun x=>x=bo) h'→Q .norm r' h'):wpc Tryz.prog cd Q r hp:=by
 simp [Tryz.f7,findR] at hc
 subst hc
 refine wpc_ordJ (fun D _ h=>LawE p q nb cells ps pv pm bl bb c (bif_ (D 5) (2 * a.disks.length) 0) (bif_ (D 5) (vwriteR a 7 c sq o.n o.s).1 a) (bif_ (D 5) (vwriteR a 7 c sq o.n o.s).2.1 sq) (bif_ (D 11) (mWr c L o.n o.s) L) bd (fun x=>x=bo) h∧h.get bo=some [.int .i64 o.o,.int .i64 o.d,.int .i64 o.n,S o.s])
  (Sc16V pv pm bo o (vwriteR a 7 c sq o.n o.s).2.2 (mWrE c o.n o.s)) (by kernel_rfl) ⟨H,go⟩ ?_ ?_
 ·intro D r2 H1 hH cl hr
  have q6:rg r2 6 = .ptr pv 0:=(ordReg0 hr (by kernel_rfl)).trans r6
  have q8:rg r2 8 = .ptr pm 0:=(ordReg0 hr (by kernel_rfl)).trans r8
  have q10:rg r2 10 = .ptr bo 0:=(ordReg0 hr (by kernel_rfl)).trans r10
  obtain ⟨HL,g1⟩:=hH
  refine ⟨?_,?_,?_,?_,?_,?_,?_,?_,?_,?_,?_,?_,?_,trivial⟩
  all_goals (intro hL hd;simp [DepL,VL,Sc16V,Region.binds] at hd)
  ·simp [q6,Sc16V];exact ⟨_,rfl,rfl,HL,g1⟩
  ·simp [q10,fieldAddrX,Sc16V];exact ⟨_,rfl,rfl,HL,g1⟩
  ·simp [hd,g1,Sc16V];exact ⟨_,rfl,rfl,HL⟩
  ·simp [q10,fieldAddrX,Sc16V];exact ⟨_,rfl,rfl,HL,g1⟩
  ·simp [hd,g1,Sc16V];exact ⟨_,rfl,rfl,HL⟩
  ·have l5:D 5=false:=hL
   rw [l5] at HL
   simp [hd]
   refine (HL.write hC (by simp [bif_]) hs0 hs1 o.n o.s).then ?_
   rintro _ h2 ⟨rfl,HL2,F2⟩
   exact ⟨_,rfl,by simp [Sc16V,bif_],by simpa [bif_] using HL2,(F2 bo rfl).trans g1⟩
  ·simp [q8,Sc16V];exact ⟨_,rfl,rfl,HL,g1⟩
  ·simp [q10,fieldAddrX,Sc16V];exact ⟨_,rfl,rfl,HL,g1⟩
  ·simp [hd,g1,Sc16V];exact ⟨_,rfl,rfl,HL⟩
  ·simp [q10,fieldAddrX,Sc16V];exact ⟨_,rfl,rfl,HL,g1⟩
  ·simp [hd,g1,Sc16V];exact ⟨_,rfl,rfl,HL⟩
  ·have l11:D 11=false:=hL
   rw [l11] at HL
   simp [hd]
   refine (HL.mwrite hll o.n o.s).then ?_
   rintro _ h2 ⟨rfl,HL2,F2⟩
   exact ⟨_,rfl,by simp [Sc16V,bif_],by simpa [hd,bif_] using HL2,(F2 bo rfl).trans g1⟩
  ·simp [hd,Sc16V];exact ⟨_,rfl,rfl,by simpa [hd] using HL,g1⟩
 ·intro D r2 H1 hall hH hr hA
  obtain ⟨HL,g1⟩:=hH
  rw [hall 5 (by decide),hall 11 (by decide)] at HL
  obtain ⟨_,_,_,_,_,_,_,_,_,_,_,_,h12,_⟩:=hA
  simp [VL,Sc16V] at h12
  refine hQ r2 H1 (fun d hd=>hr d (by simp;omega)) (by simpa using h12) (by simpa [bif_] using HL)
structure Sc (p q nb:Nat) (cells:List AV) (ps:List Nat) (pm bl bb:Nat) (c:Cfg) (ws:List OpD) (i:Nat) (r:Regs) (hp:Heap):Prop where
 le:i≤ws.length
 r1:rg r 1=TR OpC ws
 r5:rg r 5 = .ptr p 0
 r8:rg r 8 = .ptr pm 0
 r9:rg r 9 = .int .i64 i
 ex:∃ pv a sq L bd,rg r 6 = .ptr pv 0∧LawE p q nb cells ps pv pm bl bb c 0 a sq L bd (fun _=>False) hp∧SS c a sq L bd∧0≤sq∧sq≤i
end
theorem volumeScripts_pure (c:Cfg) (ws:List OpD) (_:CfW c) (_:ws.length < 2 ^ 48) (_:∀ x∈ws,OpW x) :
  CPure Tryz.prog 7 [CfA c,TR OpC ws] (.bool true):=by
 refine CPure.of_sem (k:=1) ?_
 refine CSem.body hm Tryz.func7 rfl (by kernel_rfl) (by kernel_rfl) (by simp [Tryz.ntmps7]) ?_
 have haggC:aggT Tryz.prog 23=some true:=by kernel_rfl
 have hzC:szT Tryz.prog 23=some 5:=by kernel_rfl
 have haggO:aggT Tryz.prog 47=some true:=by kernel_rfl
 have hzO:szT Tryz.prog 47=some 4:=by kernel_rfl
 have hzzO:zeroAV Tryz.prog 47=some (.agg [.int .i64 0,.int .i64 0,.int .i64 0,S []]):=by kernel_rfl
 have hel:(elT Tryz.prog 42).isSome=true:=by kernel_rfl
 have hez:(elT Tryz.prog 42).bind (szT Tryz.prog)=some 4:=by kernel_rfl
 have hcC:(CfA c).cells=[.int .i64 c.k,.int .i64 c.m,.int .i64 c.sh,.int .i64 c.st,.int .i64 c.sl]:=rfl
 have hout:∀ (h:Heap) (K:AV→Heap→Prop),K (.bool true) h→Call Tryz.prog 11 [] h K:=out16
 refine wpc_st (fun r h=>rg r 1=TR OpC ws∧rg r 2 = .ptr 0 0∧h=Heap.empty.alloc [.int .i64 c.k,.int .i64 c.m,.int .i64 c.sh,.int .i64 c.st,.int .i64 c.sl]) ?_ (by simp [hcC])
 rintro r _ ⟨r1,r2,rfl⟩
 have g1:(Heap.empty.alloc [.int .i64 c.k,.int .i64 c.m,.int .i64 c.sh,.int .i64 c.st,.int .i64 c.sl]).get 0=some [.int .i64 c.k,.int .i64 c.m,.int .i64 c.sh,.int .i64 c.st,.int .i64 c.sl]:=Heap.get_alloc_same Heap.empty _
 have lp1:(Heap.empty.alloc [.int .i64 c.k,.int .i64 c.m,.int .i64 c.sh,.int .i64 c.st,.int .i64 c.sl]).lp=none:=rfl
 generalize (Heap.empty.alloc [.int .i64 c.k,.int .i64 c.m,.int .i64 c.sh,.int .i64 c.st,.int .i64 c.sl])=H1 at g1 lp1 ⊢
 simp [r2,g1,loadX_agg haggC,hzC,takeN]
 refine (rtiny_call c _).use ?_
 by_cases hT:SmL c
 rotate_left
 ·simp [hT]
  refine hout _ _ ?_
  simp
 by_cases hw20:(20:Int) < ws.length
 ·simp [hT,r1,hw20,lenX_TR hel]
  refine hout _ _ ?_
  simp
 simp [hT,r1,r2,hw20,lenX_TR hel,g1,loadX_agg haggC,hzC,takeN]
 obtain ⟨hC,t1,t2,t3,t4⟩:=hT
 have h0:=conf_sl hC
 refine (law_start hC ⟨t1,t3⟩ g1 lp1).then ?_
 rintro _ H2 ⟨p,rfl,g2,lp2,q,nb,cells,ps,A2⟩
 simp [r2,g2,loadX_agg haggC,hzC,takeN]
 refine (law_make hC ⟨t1,t3⟩ g2 lp2 A2).then ?_
 rintro _ H3 ⟨pv0,rfl,g3,lp3,gv3,hne,A3,Q3⟩
 obtain ⟨_,_,V0,lf0,hl0,hal0⟩:=VS.make hC
 simp [r2,g3,loadX_agg haggC,hzC,takeN]
 refine (law_model hC g3 lp3 gv3 hne A3 Q3 hl0).then ?_
 rintro _ H4 ⟨pm,bl,bb,rfl,LH⟩
 simp
 refine wpc_loop (Sc p q nb cells ps pm bl bb c ws) (ws.length - ·) ?_ 0 ?_
 rotate_left
 ·exact ⟨by omega,by simpa using r1,by simp,by simp,by simp,⟨pv0,_,_,_,_,by simp,⟨LH.gv,LH.md,LH.at_.mono fun x hx=>by
    rcases hx with (h|h|h|h)|h
    ·exact .inr (.inl h)
    ·exact .inr (.inr (.inl h))
    ·exact .inr (.inr (.inr (.inl h)))
    ·exact .inr (.inr (.inr (.inr h)))
    ·exact h.elim,LH.lp,LH.q.qt V0.qt,LH.len,LH.n2,fun _ h=>h.elim⟩,SS.ofAll V0 lf0 (by omega) hl0 (by omega) hal0,by omega,by omega⟩⟩
 clear V0 lf0 hl0 hal0 LH g3 gv3 A3 Q3 lp3 g2 A2 lp2 g1 lp1 r1 r2
 rintro i r hp ⟨le,r1,r5,r8,r9,⟨pv,a,sq,L,bd,r6,H0,s,s0,s1⟩⟩
 rcases Nat.lt_or_eq_of_le le with hlt|heq
 rotate_left
 ·subst heq
  simp [r1,r9,lenX_TR hel]
  refine hout _ _ ?_
  simp
 have hlt':(i:Int) < ws.length:=by omega
 have hw1:IntKind.i64.wrap ((i:Int)+1)=(i:Int)+1:=wrap64 (by omega) (by omega)
 have htk:takeN ((ws.map OpC).flatten.drop (i * 4)) 0 4=some (OpC ws[i]):=by
  have:=takeR_at (g:=OpC) (z:=4) opC_len (rest:=[]) hlt
  rwa [List.append_nil] at this
 have ea:∀ zs,(hp.alloc zs).get hp.next=some zs:=fun zs=>Heap.get_alloc_same hp zs
 simp [r1,r9,hlt,hlt',lenX_TR hel,indexAddrX_TR hez,loadX_iptA haggO hzO,htk,hzzO,AV.cells,storeX_agg,hzO,ea]
 generalize ws[i]=o at htk ⊢
 refine ⟨⟨opC_len o,fun x hx=>List.all_eq_true.1 (show (OpC o).all AV.atom=true from rfl) x hx⟩,?_⟩
 simp only [show putN [AV.int IntKind.i64 0,AV.int IntKind.i64 0,AV.int IntKind.i64 0,S []] 0 (OpC o)=some (OpC o) from rfl,Has_some]
 obtain ⟨HL,go,F1⟩:=H0.take o [AV.int IntKind.i64 0,AV.int IntKind.i64 0,AV.int IntKind.i64 0,S []] rfl
 generalize (hp.alloc [AV.int IntKind.i64 0,AV.int IntKind.i64 0,AV.int IntKind.i64 0,S []]).put hp.next (OpC o)=H1 at HL go ⊢
 generalize hp.next=bo at HL go ⊢
 have HL:LawE p q nb cells ps pv pm bl bb c 0 a sq L bd (fun x=>x=bo) H1:=HL.less fun x hx=> .inr hx
 clear htk ea H0 F1
 by_cases h5:(5000:Int) < o.s.length
 ·simp [fieldAddrX,go,h5]
  refine hout _ _ ?_
  simp
 have hb:=s.bl
 have hda:=s.al
 by_cases o0:o.o=0
 ·rw [o0] at go
  simp [fieldAddrX,go,h5]
  refine sc16 (o:=⟨0,o.d,o.n,o.s⟩) rfl (by simpa using r6) (by simpa using r8) (by simp) HL go hC s0 (by omega) s.v.ll fun r' h' hr h69 HL2=> ?_
  have q1:=(hr 1 (by decide)).trans (by simpa using r1)
  have q5:=(hr 5 (by decide)).trans (by simpa using r5)
  have q6:=(hr 6 (by decide)).trans (by simpa using r6)
  have q8:=(hr 8 (by decide)).trans (by simpa using r8)
  have q9:=(hr 9 (by decide)).trans (by simpa using r9)
  obtain ⟨w1,w2,w3,w4⟩:=s.v.write s.lf s.good.al (by omega) o.n o.s
  simp only at HL2 h69
  rw [w1] at h69
  have HL3:=HL2.mono (HL2.q.qt w3.qt)
  have s2:=s.turn w3 w4
  have hsq:(vwriteR a 7 c sq o.n o.s).2.1≤sq+1∧0≤(vwriteR a 7 c sq o.n o.s).2.1:=by rw [w2];split<;>omega
  simp [h69,q6,q8]
  refine (HL3.reads hC (by decide) s2.v s2.good).use ?_
  simp [q9,hw1]
  exact ⟨i+1,by omega,by omega,by simpa using q1,by simpa using q5,by simpa using q8,by simp,⟨_,_,_,_,_,by simpa using q6,HL3.less fun _ h=>h.elim,s2,hsq.2,by omega⟩⟩
 by_cases o13:o.o=1∨o.o=3
 ·have o1':¬o.o=0:=o0
  have hdm:=HL.damage hC (by decide) hb o o13 (by omega)
  have s2:=s.dmg o o13
  rcases o13 with o1|o3
  ·rw [o1] at go
   simp [fieldAddrX,go,h5,r5,r8,loadX_agg haggO,hzO,takeN]
   simp only [OpC,o1] at hdm
   refine hdm.then ?_
   rintro _ H2 ⟨rfl,HL2,_⟩
   simp [r6,r8]
   refine (HL2.reads hC (by decide) s2.v s2.good).use ?_
   simp [r9,hw1]
   exact ⟨i+1,by omega,by omega,by simpa using r1,by simpa using r5,by simpa using r8,by simp,⟨_,_,_,_,_,by simpa using r6,HL2.less fun _ h=>h.elim,s2,s0,by omega⟩⟩
  ·rw [o3] at go
   simp [fieldAddrX,go,h5,r5,r8,loadX_agg haggO,hzO,takeN]
   simp only [OpC,o3] at hdm
   refine hdm.then ?_
   rintro _ H2 ⟨rfl,HL2,_⟩
   simp [r6,r8]
   refine (HL2.reads hC (by decide) s2.v s2.good).use ?_
   simp [r9,hw1]
   exact ⟨i+1,by omega,by omega,by simpa using r1,by simpa using r5,by simpa using r8,by simp,⟨_,_,_,_,_,by simpa using r6,HL2.less fun _ h=>h.elim,s2,s0,by omega⟩⟩
 have o1:¬o.o=1:=fun h=>o13 (.inl h)
 have o3:¬o.o=3:=fun h=>o13 (.inr h)
 by_cases o2:o.o=2
 ·rw [o2] at go
  have gm:=HL.md.gm
  simp only [mdC] at gm
  have gb:=HL.md.gb
  simp [fieldAddrX,go,h5]
  refine wpc_cut (fun r' h'=>rg r' 1=TR OpC ws∧rg r' 5 = .ptr p 0∧rg r' 6 = .ptr pv 0∧rg r' 8 = .ptr pm 0∧rg r' 9 = .int .i64 i∧rg r' 10 = .ptr bo 0∧rg r' 102 = .bool (decide (o.d < 0∨(bd.length:Int)≤o.d∨bd[o.d.toNat]?.getD false=false))∧H1=h') ?_ ?_
  ·refine wpc_draw 23 (by kernel_rfl) ?_
   by_cases d0:o.d < 0
   ·simp [r1,r5,r6,r8,r9,fieldAddrX,go,d0]
   by_cases d1:(bd.length:Int)≤o.d
   ·simp [r1,r5,r6,r8,r9,fieldAddrX,go,gm,d0,d1]
   obtain ⟨d,hd⟩:=Int.eq_ofNat_of_zero_le (show 0≤o.d by omega)
   rw [hd] at go d0 d1 ⊢
   have hdl:d < bd.length:=by omega
   cases hbd:bd[d]<;>simp [r1,r5,r6,r8,r9,fieldAddrX,go,gm,gb,d0,d1,hdl,hbd]
  clear r1 r5 r6 r8 r9
  rintro r _ ⟨r1,r5,r6,r8,r9,r10,r102,rfl⟩
  by_cases hcnd:o.d < 0∨(bd.length:Int)≤o.d∨bd[o.d.toNat]?.getD false=false
  ·rw [decide_eq_true hcnd] at r102
   simp [r102,r9,hw1]
   exact ⟨i+1,by omega,by omega,by simpa using r1,by simpa using r5,by simpa using r8,by simp,⟨_,_,_,_,_,by simpa using r6,HL.less fun _ h=>h.elim,s,s0,by omega⟩⟩
  rw [decide_eq_false hcnd] at r102
  obtain ⟨d,hd⟩:=Int.eq_ofNat_of_zero_le (show 0≤o.d by omega)
  have hdl:d < bd.length:=by omega
  have hbt:bd[d]? = some true:=by
   rw [hd,Int.toNat_natCast,List.getElem?_eq_getElem hdl] at hcnd
   rw [List.getElem?_eq_getElem hdl]
   cases hx:bd[d]
   ·exact (hcnd (.inr (.inr (by simp [hx])))).elim
   ·rfl
  rw [hd] at go
  simp [r102,r5,r10,fieldAddrX,go]
  refine (HL.repl (d:Int)).then ?_
  rintro _ H2 ⟨rfl,HL2,F2⟩
  have s2:=s.repl hbt
  have hal2:(a.replace (d:Int)).1.alive (d:Int)=true:=by
   obtain ⟨⟨g,I,_⟩,_⟩:=s.v
   have:=(I.replace (show d < a.disks.length by omega) (show bdP bd d from hbt)).2.al d
   simpa using this
  simp [r6]
  refine (HL2.mended hC s2.v s2.good s2.lf (by omega)).then ?_
  rintro _ H3 ⟨rfl,a3,HL3,F3,V3,S3⟩
  have go3:=((F3 bo rfl).trans (F2 bo rfl)).trans go
  have gm3:=HL3.md.gm
  simp only [mdC] at gm3
  have gb3:=HL3.md.gb
  have hbl3:=Heap.get_lt gb3
  have s3:=s2.heal hbt hal2 S3 V3
  obtain ⟨HL4,F4⟩:=HL3.note d false
  simp
  refine wpc_draw 7 (by kernel_rfl) ?_
  simp [r8,r10,fieldAddrX,gm3,go3,gb3,hdl,hbl3,r6]
  refine (HL4.reads hC (by decide) s3.v s3.good).use ?_
  simp [r9,hw1]
  exact ⟨i+1,by omega,by omega,by simpa using r1,by simpa using r5,by simpa using r8,by simp,⟨_,_,_,_,_,by simpa using r6,HL4.less fun _ h=>h.elim,s3,s0,by omega⟩⟩
 by_cases o4:o.o=4
 ·rw [o4] at go
  simp [fieldAddrX,go,h5,r5]
  refine (HL.open_ t3 s.v s.good s.lf (by omega)).then ?_
  rintro _ H2 ⟨pw,a2,rfl,HL2,gv2,F2,V2,S2⟩
  have s2:=s.turn V2 S2
  simp [r6]
  refine (vseq_sem HL2.gv).use ?_
  simp [r6]
  refine (vseq_sem gv2).use ?_
  simp [r8]
  refine (HL2.reads hC (by decide) s2.v s2.good).use ?_
  simp [r9,hw1]
  exact ⟨i+1,by omega,by omega,by simpa using r1,by simpa using r5,by simpa using r8,by simp,⟨_,_,_,_,_,by simp,HL2.less fun _ h=>h.elim,s2,s0,by omega⟩⟩
 ·simp [fieldAddrX,go,h5,o0,o1,o2,o3,o4,r6,r8]
  refine (HL.reads hC (by decide) s.v s.good).use ?_
  simp [r9,hw1]
  exact ⟨i+1,by omega,by omega,by simpa using r1,by simpa using r5,by simpa using r8,by simp,⟨_,_,_,_,_,by simpa using r6,HL.less fun _ h=>h.elim,s,s0,by omega⟩⟩
end Go.Proofs.YtjcnihmbpakipaaGreatDoor.X
