/-
  ScrubSteps.
-/
import Derived.Test.YtpabfpccpbakfaaGreatDoorV81
import Derived.Test.YtpabfpccpbakfaaGreatDoorV89
namespace Go.Proofs.YtpabfpccpbakfaaGreatDoor.X
open Go.RowKit F
set_option maxRecDepth 100000
set_option linter.unusedSimpArgs false
set_option linter.unusedVariables false
def alCV (c:Cfg) (u1:List Txt) (u2:List HuD) (x1:Int) (x2:List Int) (x3:List Bool):Nat→AV→Prop
 | 0,v=>v = .ptr 0 0
 | 1,v=>v=CfA c
 | 2,v=>v = .ptr 0 5
 | 3,v=>v=(SL u1)
 | 4,v=>v = .ptr 0 6
 | 5,v=>v=(TR HuC u2)
 | 6,v=>v = .ptr 0 7
 | 7,v=>v = .agg [(.int .i64 x1),(IL x2),(OL x3)]
 | 11,v=>v=(SL u1)
 | 12,v=>v=(TR HuC u2)
 | _,v=>True
theorem alC {cd:Code} (hc:(Tryz.f3.body).bind (Es 1)=some cd) {r:Regs} {H:Heap} {Q:Out→Regs→Heap→Prop} {c:Cfg} {u1:List Txt} {u2:List HuD} {x1:Int} {x2:List Int} {x3:List Bool} (r1:rg r 1 = .ptr 0 0)
  (g0:H.get 0=some [.int .i64 c.k,.int .i64 c.m,.int .i64 c.sh,.int .i64 c.st,.int .i64 c.sl,(SL u1),(TR HuC u2),(.int .i64 x1),(IL x2),(OL x3)])
  (hQ:∀ (r':Regs) (h':Heap) (b d:Nat),rg r' 3 = .ptr b 0→rg r' 4=(SL u1)→rg r' 5=(TR HuC u2)→rg r' 6 = .ptr d 0→Ext H h'→h'.get b=some (cC c)→h'.get d=some [(.int .i64 x1),(IL x2),(OL x3)]→Q .norm r' h'):wpc Tryz.prog cd Q r H:=by
 simp [Tryz.f3,Es] at hc
 subst hc
 have haggC:aggT Tryz.prog 23=some true:=by kernel_rfl
 have hzC:szT Tryz.prog 23=some 5:=by kernel_rfl
 have hzz:Au Tryz.prog 23=some (.agg zC):=by kernel_rfl
 have haggX:aggT Tryz.prog 29=some true:=by kernel_rfl
 have hzX:szT Tryz.prog 29=some 3:=by kernel_rfl
 have hzzX:Au Tryz.prog 29=some (.agg [(.int .i64 0),.nilSl,.nilSl]):=by kernel_rfl
 refine Gf (fun L r' h=>A2H H c [(.int .i64 x1),(IL x2),(OL x3)] [(.int .i64 0),.nilSl,.nilSl] (L 8) (L 9) (L 10) (L 13) (rg r' 3) (rg r' 6) h) (alCV c u1 u2 x1 x2 x3) (by kernel_rfl) ⟨Ext.refl H,fun h=>(by cases h),fun h=>(by cases h)⟩ ?_ ?_
 ·intro L r2 H1 hH cl hr
  have q1:rg r2 1 = .ptr 0 0:=(Db hr (by kernel_rfl)).trans r1
  have g1:H1.get 0=some [.int .i64 c.k,.int .i64 c.m,.int .i64 c.sh,.int .i64 c.st,.int .i64 c.sl,(SL u1),(TR HuC u2),(.int .i64 x1),(IL x2),(OL x3)]:=hH.1.got g0
  refine ⟨?_,?_,?_,?_,?_,?_,?_,?_,?_,?_,?_,?_,?_,?_,trivial⟩
  all_goals (intro hL hd;simp [DepL,VL,alCV,Region.binds] at hd)
  ·simp [q1,A8,g1,alCV];exact ⟨_,rfl,rfl,hH⟩
  ·simp [hd,g1,Ab haggC,hzC,takeN,alCV,CfA];exact ⟨_,rfl,rfl,hH⟩
  ·simp [q1,A8,g1,alCV];exact ⟨_,rfl,rfl,hH⟩
  ·simp [hd,g1,alCV];exact ⟨_,rfl,rfl,hH⟩
  ·simp [q1,A8,g1,alCV];exact ⟨_,rfl,rfl,hH⟩
  ·simp [hd,g1,alCV];exact ⟨_,rfl,rfl,hH⟩
  ·simp [q1,A8,g1,alCV];exact ⟨_,rfl,rfl,hH⟩
  ·simp [hd,g1,Ab haggX,hzX,takeN,alCV];exact ⟨_,rfl,rfl,hH⟩
  ·have l8:L 8=false:=hL
   have l10:=cl 10 8 (by kernel_rfl) hL
   obtain ⟨E,h1,h2⟩:=hH
   have hn:=E.next
   simp [hzz,zC,AV.cells,alCV]
   exact ⟨⟨_,rfl⟩,E.alloc _,fun _=>⟨_,rfl,hn,by simp [l10,bf2,zC,Heap.A9]⟩,fun h=>by
    obtain ⟨b,e,k1,k2⟩:=h2 h
    exact ⟨b,e,k1,Heap.Af k2⟩⟩
  ·have l9:L 9=false:=hL
   have l13:=cl 13 9 (by kernel_rfl) hL
   obtain ⟨E,h1,h2⟩:=hH
   have hn:=E.next
   simp [hzzX,AV.cells,alCV]
   exact ⟨⟨_,rfl⟩,E.alloc _,fun h=>by
    obtain ⟨b,e,k1,k2⟩:=h1 h
    exact ⟨b,e,k1,Heap.Af k2⟩,fun _=>⟨_,rfl,hn,by simp [l13,bf2,Heap.A9]⟩⟩
  ·have l10:L 10=false:=hL
   have l8:L 8=true:=by simp [hd]
   obtain ⟨E,h1,h2⟩:=hH
   obtain ⟨b,e,k1,k2⟩:=h1 l8
   rw [l10] at k2
   have k2:H1.get b=some zC:=k2
   simp only [zC] at k2
   simp [e,hd,k2,Ae,hzC,putN,CfA]
   refine ⟨E.put k1 _,fun _=>⟨b,rfl,k1,Heap.Ac k2⟩,fun h=> ?_⟩
   obtain ⟨b',e',k1',k2'⟩:=h2 (by first|exact h|simp [hd])
   refine ⟨b',e',k1',?_⟩
   rw [Heap.Ag k2 (fun eq=> ?_)]
   ·first|exact k2'|simpa [hd] using k2'
   ·subst eq
    rw [k2] at k2'
    cases h13:L 13<;>rw [h13] at k2'<;>simp [bf2] at k2'
  ·simp [hd,alCV];exact ⟨_,rfl,rfl,by simpa [hd] using hH⟩
  ·simp [hd,alCV];exact ⟨_,rfl,rfl,by simpa [hd] using hH⟩
  ·have l13:L 13=false:=hL
   have l9:L 9=true:=by simp [hd]
   obtain ⟨E,h1,h2⟩:=hH
   obtain ⟨b,e,k1,k2⟩:=h2 l9
   rw [l13] at k2
   have k2:H1.get b=some [(.int .i64 0),.nilSl,.nilSl]:=k2
   simp [e,hd,k2,Ae,hzX,putN]
   refine ⟨E.put k1 _,fun h=> ?_,fun _=>⟨b,rfl,k1,Heap.Ac k2⟩⟩
   obtain ⟨b',e',k1',k2'⟩:=h1 (by first|exact h|simp [hd])
   refine ⟨b',e',k1',?_⟩
   rw [Heap.Ag k2 (fun eq=> ?_)]
   ·first|exact k2'|simpa [hd] using k2'
   ·subst eq
    rw [k2] at k2'
    cases h10:L 10<;>rw [h10] at k2'<;>simp [bf2,cC,zC] at k2'
 ·intro L r2 H1 hall hH hr hA
  obtain ⟨E,h1,h2⟩:=hH
  obtain ⟨b,e,_,k2⟩:=h1 (hall 8 (by decide))
  obtain ⟨d,e',_,k2'⟩:=h2 (hall 9 (by decide))
  rw [hall 10 (by decide)] at k2
  rw [hall 13 (by decide)] at k2'
  obtain ⟨_,_,_,_,_,_,_,_,_,_,_,h11,h12,_⟩:=hA
  simp [VL,alCV] at h11 h12
  exact hQ r2 H1 b d e h11 h12 e' E k2 k2'
structure SsI (p q nb:Nat) (cells:List AV) (ps:List Nat) (b bx:Nat) (c:Cfg) (many:Int) (fs:List Int) (kp:List Bool) (sq:Int) (L:List Txt) (bad:Nat→Prop) (i:Nat×Nat×Nat) (r:Regs) (hp:Heap):Prop where
 r3:rg r 3 = .ptr b 0
 r6:rg r 6 = .ptr bx 0
 r7:rg r 7 = .ptr p 0
 r11:rg r 11 = .int .i64 i.1
 r12:rg r 12 = .int .i64 i.2.2
 r13:rg r 13 = .int .i64 ((i.2.1+i.2.2:Nat):Int)
 r14:rg r 14 = .bool (decide ((i.1:Int)=c.st))
 gc:hp.get b=some [.int .i64 c.k,.int .i64 c.m,.int .i64 c.sh,.int .i64 c.st,.int .i64 c.sl]
 gx:hp.get bx=some [.int .i64 many,IL fs,OL kp]
 nn:(i.1:Int) < c.st→(i.1:Int)=i.2.1 * many
 cr:i.2.2≤fs.length
 sn:i.2.1≤i.1
 ex:∃ pv a,rg r 8 = .ptr pv 0∧LawV p q nb cells ps pv c 0 a sq (fun x=>x=b∨x=bx) hp∧SB c a sq L bad i.1∧a.down=false∧Qt a∧(i.2.2=fs.length→a.left < 0)
theorem Vb (c:Cfg) (ts:List Txt) (l:List HuD) (x:Int×List Int×List Bool) (_:CfW c) (_:ts.length < 2 ^ 48∧∀ x∈ts,x.length < 2 ^ 63) (hl1:l.length < 2 ^ 48∧∀ x∈l,HuW x) (hx:(Lit.int .i64 x.1).wf=true∧(x.2.1.length < 2 ^ 48∧∀ y∈x.2.1,(Lit.int .i64 y).wf=true)∧x.2.2.length < 2 ^ 48) :
  Aq Tryz.prog 3 [.agg (.int .i64 c.k :: .int .i64 c.m :: .int .i64 c.sh :: .int .i64 c.st :: .int .i64 c.sl :: SL ts :: TR HuC l :: [.int .i64 x.1,IL x.2.1,OL x.2.2])] (.bool true):=by
 obtain ⟨many,fs,kp⟩:=x
 simp only at hx
 obtain ⟨_,⟨_,hfw⟩,hkp⟩:=hx
 refine Aq.Az (k:=1) ?_
 refine CSem.body hm Tryz.func3 rfl (by kernel_rfl) (by kernel_rfl) (by simp [Tryz.ntmps3]) ?_
 have haggC:aggT Tryz.prog 23=some true:=by kernel_rfl
 have hzC:szT Tryz.prog 23=some 5:=by kernel_rfl
 have haggR:aggT Tryz.prog 44=some true:=by kernel_rfl
 have hzR:szT Tryz.prog 44=some 4:=by kernel_rfl
 have hzr:Au Tryz.prog 44=some (.agg [.int .i64 0,.int .i64 0,.int .i64 0,.bool false]):=by kernel_rfl
 have hel:(elT Tryz.prog 25).isSome=true:=by kernel_rfl
 refine Eg (fun r h=>rg r 1 = .ptr 0 0∧h=Heap.empty.alloc [.int .i64 c.k,.int .i64 c.m,.int .i64 c.sh,.int .i64 c.st,.int .i64 c.sl,SL ts,TR HuC l,.int .i64 many,IL fs,OL kp]) ?_ (by simp [AV.cells];rfl)
 rintro r _ ⟨r1,rfl⟩
 rw [C8]
 have lp0:(Heap.empty.alloc [.int .i64 c.k,.int .i64 c.m,.int .i64 c.sh,.int .i64 c.st,.int .i64 c.sl,SL ts,TR HuC l,.int .i64 many,IL fs,OL kp]).lp=none:=rfl
 refine alC rfl r1 (Heap.A9 _ _) fun r H1 b bx r3 r4 r5 r6 E1 g1 gx1=> ?_
 have lp1:H1.lp=none:=E1.lp.trans lp0
 clear E1 lp0 r1
 simp only [cC] at g1
 have hbl:=Heap.Ah g1
 have hbx:=Heap.Ah gx1
 have hout:∀ (h:Heap) (K:AV→Heap→Prop),K (.bool true) h→Call Tryz.prog 6 [] h K:=out17
 simp [r3,g1,Ab haggC,hzC,takeN]
 refine (Xg c _).use ?_
 by_cases hT:SmL c
 rotate_left
 ·simp [hT]
  refine hout _ _ ?_
  simp
 by_cases hw6:(6:Int) < ts.length
 ·simp [hT,r4,hw6]
  refine hout _ _ ?_
  simp
 by_cases hw12:(12:Int) < l.length
 ·simp [hT,r4,r5,hw6,hw12,Ff hel]
  refine hout _ _ ?_
  simp
 by_cases hm1:many < 1
 ·simp [hT,r4,r5,r6,hw6,hw12,Ff hel,A8,gx1,hm1]
  refine hout _ _ ?_
  simp
 by_cases hm10:10 < many
 ·simp [hT,r4,r5,r6,hw6,hw12,Ff hel,A8,gx1,hm1,hm10]
  refine hout _ _ ?_
  simp
 by_cases hf5:(5:Int) < fs.length
 ·simp [hT,r4,r5,r6,hw6,hw12,Ff hel,A8,gx1,hm1,hm10,hf5]
  refine hout _ _ ?_
  simp
 simp [hT,r3,r4,r5,r6,hw6,hw12,Ff hel,A8,gx1,hm1,hm10,hf5,g1,Ab haggC,hzC,takeN]
 obtain ⟨hC,t1,t2,t3,t4⟩:=hT
 have h0:=Bk hC
 have hst:1≤c.st:=hC.2.2.2.1.1
 refine (Xe hC ⟨t1,t3⟩ (ts:=ts) (tv:=SL ts) (by omega) _ (.inl rfl) lp1).then ?_
 rintro _ H2 ⟨p,q,nb,cells,ps,pv,rfl,LH,F2⟩
 have LH:=LH.less (E':=fun x=>x=b∨x=bx) fun x hx=>by rcases hx with rfl|rfl;exact hbl;exact hbx
 have g2:=(F2 b hbl).trans g1
 have gx2:=(F2 bx hbx).trans gx1
 obtain ⟨W,s0,s1⟩:=Jp hC ts ts.length (by omega)
 generalize Ga c ts ts.length=aq at LH W s0 s1
 generalize A9q c ts ts.length=L at W
 obtain ⟨a0,sq⟩:=aq
 simp only at LH W s0 s1
 simp [r3,r5,g2,Ab haggC,hzC,takeN]
 refine (Ac1 LH hC ⟨t1,t3,t4⟩ W.ex (by omega) hl1.2).then ?_
 rintro _ H4 hq
 rcases hq with ⟨n,rfl⟩|⟨a1,X,bdd,rfl,L4,F4,EX4,hbd,hX,hbads,hD⟩
 ·simp
  refine hout _ _ ?_
  simp
 have g4:=(F4 b (.inl rfl)).trans g2
 have gx4:=(F4 bx (.inr rfl)).trans gx2
 have B0:=EX4.sb hX hbd hbads
 have hlf:=EX4.lf
 have hdn:=EX4.dn
 have hqt:=EX4.qt
 clear LH g2 F2 g1 lp1 gx2 gx1 EX4 F4
 simp
 refine Am (SsI p q nb cells ps b bx c many fs kp sq L (bdP bdd)) (fun i=>(c.st - i.1).toNat+(fs.length - i.2.2)) ?_ (0,0,0) ?_
 rotate_left
 ·exact ⟨by simpa using r3,by simpa using r6,by simp,by simp,by simp,by simp,by simp;omega,g4,gx4,fun _=>by simp,by simp,by simp,pv,a1,by simp,L4,B0,hdn,hqt,fun _=>hlf⟩
 clear L4 g4 gx4 B0 hlf hdn hqt r3 r4 r5 r6
 rintro ⟨n,s,cr⟩ r hp ⟨r3,r6,r7,r11,r12,r13,r14,gc,gx,nn,hcr,hsn,pv,a,r8,H,B,hdn,hqt,hlf⟩
 simp only at r11 r12 r13 r14 nn hcr hsn B hlf
 have hle:=B.le
 by_cases hfin:(n:Int)=c.st
 ·obtain ⟨V,hl,_⟩:=B.done hst t1 hfin hdn hqt
  have hwk:IntKind.i64.wrap (c.k+c.m)=c.k+c.m:=wrap64 (by omega) (by omega)
  simp [r14,hfin,r8]
  refine (H.least hC (by decide)).use ?_
  rw [hl]
  simp [r3,A8,gc,hwk]
  refine hout _ _ ?_
  simp
 have hlt:(n:Int) < c.st:=by omega
 have hns:=nn hlt
 have hsN:=Abq (st:=c.st) (many:=many) (s:=s) (by omega) (by omega)
 have hsb:(s:Int)≤6:=by omega
 have hNb:Lw c.st many≤100:=by
  unfold Lw
  refine Int.le_trans (Int.ediv_le_self _ (by omega)) (by omega)
 have hw1:IntKind.i64.wrap (((s+cr:Nat):Int)+1)=((s+cr:Nat):Int)+1:=wrap64 (by omega) (by omega)
 have hw1':IntKind.i64.wrap ((s:Int)+cr+1)=(s:Int)+cr+1:=wrap64 (by omega) (by omega)
 have hw2:IntKind.i64.wrap (Lw c.st many+(cr:Int))=Lw c.st many+cr:=wrap64 (by omega) (by omega)
 have hw3:IntKind.i64.wrap ((cr:Int)+1)=(cr:Int)+1:=wrap64 (by omega) (by omega)
 have hgt:¬(Lw c.st many+(cr:Int) < (s:Int)+cr+1):=by omega
 rw [decide_eq_false hfin] at r14
 rw [C8]
 refine Fb (fun r' h'=>(∀ t,t < 20→rg r' t=rg r t)∧hp=h') ?_ ?_
 ·simp [r14]
  intro t ht
  repeat rw [if_neg (by omega)]
 rintro r' _ ⟨old,rfl⟩
 rw [De,Qn]
 have q13:=(old 13 (by decide)).trans r13
 refine Eg (fun r'' h'=>(∀ t,t < 20→t≠13→rg r'' t=rg r t)∧rg r'' 13 = .int .i64 ((s:Int)+cr+1)∧hp=h') ?_ ?_
 rotate_left
 ·simp [q13,hw1']
  intro t ht h13
  repeat rw [if_neg (by omega)]
  exact old t ht
 clear old q13
 rintro r' _ ⟨old,q13,rfl⟩
 rw [C8]
 have q3:=(old 3 (by decide) (by decide)).trans r3
 have q6:=(old 6 (by decide) (by decide)).trans r6
 have q12:=(old 12 (by decide) (by decide)).trans r12
 refine Fb (fun r'' h'=>(∀ t,t < 20→rg r'' t=rg r' t)∧hp=h') ?_ ?_
 ·simp [q3,q6,q13,A8,gc,gx]
  refine ((A4t (st:=c.st) (many:=many) (by omega) (by omega) (by omega) (by omega)).call (k:=2) (by simp)).use ?_
  simp [q12,q13,hw2,hgt]
  intro t ht
  repeat rw [if_neg (by omega)]
 rintro r2 _ ⟨old2,rfl⟩
 have old3:∀ t,t < 20→t≠13→rg r2 t=rg r t:=fun t ht h=>(old2 t ht).trans (old t ht h)
 have q13:=(old2 13 (by decide)).trans q13
 have q3:=(old3 3 (by decide) (by decide)).trans r3
 have q6:=(old3 6 (by decide) (by decide)).trans r6
 have q7:=(old3 7 (by decide) (by decide)).trans r7
 have q12:=(old3 12 (by decide) (by decide)).trans r12
 clear old old2
 rw [De,C8]
 refine Fb (fun r'' h'=>(∀ t,t < 20→rg r'' t=rg r2 t)∧∃ a',LawV p q nb cells ps pv c 0 a' sq (fun x=>x=b∨x=bx) h'∧Fr' (fun x=>x=b∨x=bx) hp h'∧SB c a' sq L (bdP bdd) n∧a'.down=false∧Qt a'∧(cr=fs.length→a'.left < 0)) ?_ ?_
 ·by_cases hcl:cr < fs.length
  ·have hcl':(cr:Int) < fs.length:=by omega
   by_cases hf0:0≤fs[cr]
   ·simp [I64,q6,q7,q12,A8,gx,hcl,hcl',hf0]
    have hfb:fs[cr] < 2 ^ 63:=by
     have:=hfw fs[cr] (List.getElem_mem hcl)
     exact A9z this
    refine (H.fuse fs[cr] hfb).then ?_
    rintro _ h' ⟨rfl,H',F'⟩
    obtain ⟨e1,e2,_⟩:=Ty a fs[cr]
    simp
    refine ⟨fun t ht=> ?_,_,H',F',B.fuse _,by rw [e2];exact hdn,fun y hy=>hqt y (by rw [e1] at hy;exact hy),fun h=>by omega⟩
    repeat rw [if_neg (by omega)]
   ·simp [I64,q6,q7,q12,A8,gx,hcl,hcl',hf0]
    refine ⟨fun t ht=> ?_,_,H,Fr'.refl _ _,B,hdn,hqt,hlf⟩
    repeat rw [if_neg (by omega)]
  ·have hcl':¬(cr:Int) < fs.length:=by omega
   simp [I64,q6,q7,q12,A8,gx,hcl,hcl']
   refine ⟨fun t ht=> ?_,_,H,Fr'.refl _ _,B,hdn,hqt,hlf⟩
   repeat rw [if_neg (by omega)]
 rintro r4 h4 ⟨old4,a4,H4,F4,B4,hdn4,hqt4,hlf4⟩
 have old5:∀ t,t < 20→t≠13→rg r4 t=rg r t:=fun t ht h=>(old4 t ht).trans (old3 t ht h)
 have p13:=(old4 13 (by decide)).trans q13
 have p3:=(old5 3 (by decide) (by decide)).trans r3
 have p6:=(old5 6 (by decide) (by decide)).trans r6
 have p7:=(old5 7 (by decide) (by decide)).trans r7
 have p8:=(old5 8 (by decide) (by decide)).trans r8
 have p11:=(old5 11 (by decide) (by decide)).trans r11
 have p12:=(old5 12 (by decide) (by decide)).trans r12
 have p14:=(old5 14 (by decide) (by decide)).trans r14
 have gc4:=(F4 b (.inl rfl)).trans gc
 have gx4:=(F4 bx (.inr rfl)).trans gx
 clear H B hdn hqt hlf gc gx F4 old3 old4 old5 q3 q6 q7 q12 q13
 rw [De]
 simp [p6,p8,p11,A8,gx4]
 refine (H4.step hC (by decide) n many).then ?_
 rintro _ h5 ⟨rfl,H5,F5⟩
 have gc5:=(F5 b (.inl rfl)).trans gc4
 have gx5:=(F5 bx (.inr rfl)).trans gx4
 have hst4:=B4.step hC hdn4 hqt4 (by omega) hlt (many:=many) (by omega)
 simp only [repC]
 simp [hzr,AV.cells,Ae,hzR,putN,Heap.A9]
 generalize Bj a4 7 c n many=ST at H5 hst4 ⊢
 obtain ⟨H6,g6,F6⟩:=H5.box [.int .i64 0,.int .i64 0,.int .i64 0,.bool false] [.int .i64 ST.rp.nx,.int .i64 ST.rp.me,.int .i64 ST.rp.lo,.bool ST.rp.dn]
 have gc6:=(F6 b (.inl rfl)).trans gc5
 have gx6:=(F6 bx (.inr rfl)).trans gx5
 generalize (h5.alloc [.int .i64 0,.int .i64 0,.int .i64 0,.bool false]).put h5.next [.int .i64 ST.rp.nx,.int .i64 ST.rp.me,.int .i64 ST.rp.lo,.bool ST.rp.dn]=h6 at H6 g6 gc6 gx6 ⊢
 generalize h5.next=b9 at H6 g6 ⊢
 rcases hst4 with ⟨e1,e2,e3,_,n',e4,e5,e6,e7,B6⟩|⟨e1,e2,B6⟩
 ·have H7:=(H6.mono (H6.q.qt e3)).less (E':=fun x=>x=b∨x=bx) fun x hx=> .inl hx
  simp [e1,A8,g6,e4,e6]
  refine ⟨n',s+1,cr,?_,by simpa using p3,by simpa using p6,by simpa using p7,by simp,by simpa using p12,?_,by simp,gc6,gx6,?_,hcr,?_,pv,ST.ar,by simpa using p8,H7,B6,e2,e3,fun h=>e7 (hlf4 h)⟩
  ·(try simp only);omega
  ·simp only
   push_cast
   simp [p13]
   omega
  ·intro h
   simp only at h ⊢
   push_cast
   rw [Int.add_mul]
   omega
  ·simp only
   omega
 ·have hcl:cr < fs.length:=by
   rcases Nat.lt_or_eq_of_le hcr with h|h
   ·exact h
   ·exact (e2 (hlf4 h)).elim
  simp [e1,p6,p7,p12,hw3,A8,gx6]
  refine (H6.Bb (by decide) kp (by omega)).then ?_
  rintro _ h7 ⟨rfl,H7,F7⟩
  obtain ⟨o1,o2,o3,o4,o5,o6,o7,o8⟩:=B6.A27 kp (by omega)
  have gc7:=(F7 b (.inl (.inl rfl))).trans gc6
  have gx7:=(F7 bx (.inl (.inr rfl))).trans gx6
  have hal:(ST.ar.Bb kp).disks.length=ST.ar.disks.length:=Arr.M9 _ _
  simp [p7]
  refine (H7.opened t3 o3 o1 o2 o5 (by rw [o6,hal])).then ?_
  rintro _ h8 ⟨pw,rfl,H8,F8,_⟩
  have gc8:=(F8 b (.inl (.inl (.inl rfl)))).trans gc7
  have gx8:=(F8 bx (.inl (.inl (.inr rfl)))).trans gx7
  have H9:=H8.less (E':=fun x=>x=b∨x=bx) fun x hx=> .inl (.inl hx)
  simp
  refine ⟨n,s,cr+1,?_,by simpa using p3,by simpa using p6,by simpa using p7,by simpa using p11,by simp,?_,by rw [decide_eq_false hfin];simpa using p14,gc8,gx8,nn,hcl,hsn,pw,_,by simp,H9,o8,o4,o5,fun _=>o7⟩
  ·(try simp only);omega
  ·simp only
   push_cast
   simp [p13]
   omega
end Go.Proofs.YtpabfpccpbakfaaGreatDoor.X
