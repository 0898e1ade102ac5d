/-
  RebuildCrash.
-/
import Derived.Test.YtpabfpccpbakfaaGreatDoorV89
namespace Go.Proofs.YtpabfpccpbakfaaGreatDoor.X
open Go.RowKit F
set_option maxRecDepth 100000
set_option linter.unusedSimpArgs false
set_option linter.unusedVariables false
def alXV (c:Cfg) (u1:List Txt) (u2:Int) (x1:List Int) (x2:List Bool):Nat→AV→Prop
 | 0,v=>v = .ptr 0 0
 | 1,v=>v=CfA c
 | 2,v=>v = .ptr 0 5
 | 3,v=>v=(SL u1)
 | 4,v=>v = .ptr 0 6
 | 5,v=>v=(.int .i64 u2)
 | 6,v=>v = .ptr 0 7
 | 7,v=>v = .agg [(IL x1),(OL x2)]
 | 11,v=>v=(SL u1)
 | 12,v=>v=(.int .i64 u2)
 | _,v=>True
theorem alX {cd:Code} (hc:(Tryz.f4.body).bind (Es 1)=some cd) {r:Regs} {H:Heap} {Q:Out→Regs→Heap→Prop} {c:Cfg} {u1:List Txt} {u2:Int} {x1:List Int} {x2:List Bool} (r1:rg r 1 = .ptr 0 0)
  (g0:H.get 0=some [.int .i64 c.k,.int .i64 c.m,.int .i64 c.sh,.int .i64 c.st,.int .i64 c.sl,(SL u1),(.int .i64 u2),(IL x1),(OL x2)])
  (hQ:∀ (r':Regs) (h':Heap) (b d:Nat),rg r' 3 = .ptr b 0→rg r' 4=(SL u1)→rg r' 5=(.int .i64 u2)→rg r' 6 = .ptr d 0→Ext H h'→h'.get b=some (cC c)→h'.get d=some [(IL x1),(OL x2)]→Q .norm r' h'):wpc Tryz.prog cd Q r H:=by
 simp [Tryz.f4,Es] at hc
 subst hc
 have haggC:aggT Tryz.prog 23=some true:=by kernel_rfl
 have hzC:szT Tryz.prog 23=some 5:=by kernel_rfl
 have hzz:Au Tryz.prog 23=some (.agg zC):=by kernel_rfl
 have haggX:aggT Tryz.prog 54=some true:=by kernel_rfl
 have hzX:szT Tryz.prog 54=some 2:=by kernel_rfl
 have hzzX:Au Tryz.prog 54=some (.agg [.nilSl,.nilSl]):=by kernel_rfl
 refine Gf (fun L r' h=>A2H H c [(IL x1),(OL x2)] [.nilSl,.nilSl] (L 8) (L 9) (L 10) (L 13) (rg r' 3) (rg r' 6) h) (alXV c u1 u2 x1 x2) (by kernel_rfl) ⟨Ext.refl H,fun h=>(by cases h),fun h=>(by cases h)⟩ ?_ ?_
 ·intro L r2 H1 hH cl hr
  have q1:rg r2 1 = .ptr 0 0:=(Db hr (by kernel_rfl)).trans r1
  have g1:H1.get 0=some [.int .i64 c.k,.int .i64 c.m,.int .i64 c.sh,.int .i64 c.st,.int .i64 c.sl,(SL u1),(.int .i64 u2),(IL x1),(OL x2)]:=hH.1.got g0
  refine ⟨?_,?_,?_,?_,?_,?_,?_,?_,?_,?_,?_,?_,?_,?_,trivial⟩
  all_goals (intro hL hd;simp [DepL,VL,alXV,Region.binds] at hd)
  ·simp [q1,A8,g1,alXV];exact ⟨_,rfl,rfl,hH⟩
  ·simp [hd,g1,Ab haggC,hzC,takeN,alXV,CfA];exact ⟨_,rfl,rfl,hH⟩
  ·simp [q1,A8,g1,alXV];exact ⟨_,rfl,rfl,hH⟩
  ·simp [hd,g1,alXV];exact ⟨_,rfl,rfl,hH⟩
  ·simp [q1,A8,g1,alXV];exact ⟨_,rfl,rfl,hH⟩
  ·simp [hd,g1,alXV];exact ⟨_,rfl,rfl,hH⟩
  ·simp [q1,A8,g1,alXV];exact ⟨_,rfl,rfl,hH⟩
  ·simp [hd,g1,Ab haggX,hzX,takeN,alXV];exact ⟨_,rfl,rfl,hH⟩
  ·have l8:L 8=false:=hL
   have l10:=cl 10 8 (by kernel_rfl) hL
   obtain ⟨E,h1,h2⟩:=hH
   have hn:=E.next
   simp [hzz,zC,AV.cells,alXV]
   exact ⟨⟨_,rfl⟩,E.alloc _,fun _=>⟨_,rfl,hn,by simp [l10,bf2,zC,Heap.A9]⟩,fun h=>by
    obtain ⟨b,e,k1,k2⟩:=h2 h
    exact ⟨b,e,k1,Heap.Af k2⟩⟩
  ·have l9:L 9=false:=hL
   have l13:=cl 13 9 (by kernel_rfl) hL
   obtain ⟨E,h1,h2⟩:=hH
   have hn:=E.next
   simp [hzzX,AV.cells,alXV]
   exact ⟨⟨_,rfl⟩,E.alloc _,fun h=>by
    obtain ⟨b,e,k1,k2⟩:=h1 h
    exact ⟨b,e,k1,Heap.Af k2⟩,fun _=>⟨_,rfl,hn,by simp [l13,bf2,Heap.A9]⟩⟩
  ·have l10:L 10=false:=hL
   have l8:L 8=true:=by simp [hd]
   obtain ⟨E,h1,h2⟩:=hH
   obtain ⟨b,e,k1,k2⟩:=h1 l8
   rw [l10] at k2
   have k2:H1.get b=some zC:=k2
   simp only [zC] at k2
   simp [e,hd,k2,Ae,hzC,putN,CfA]
   refine ⟨E.put k1 _,fun _=>⟨b,rfl,k1,Heap.Ac k2⟩,fun h=> ?_⟩
   obtain ⟨b',e',k1',k2'⟩:=h2 (by first|exact h|simp [hd])
   refine ⟨b',e',k1',?_⟩
   rw [Heap.Ag k2 (fun eq=> ?_)]
   ·first|exact k2'|simpa [hd] using k2'
   ·subst eq
    rw [k2] at k2'
    cases h13:L 13<;>rw [h13] at k2'<;>simp [bf2] at k2'
  ·simp [hd,alXV];exact ⟨_,rfl,rfl,by simpa [hd] using hH⟩
  ·simp [hd,alXV];exact ⟨_,rfl,rfl,by simpa [hd] using hH⟩
  ·have l13:L 13=false:=hL
   have l9:L 9=true:=by simp [hd]
   obtain ⟨E,h1,h2⟩:=hH
   obtain ⟨b,e,k1,k2⟩:=h2 l9
   rw [l13] at k2
   have k2:H1.get b=some [.nilSl,.nilSl]:=k2
   simp [e,hd,k2,Ae,hzX,putN]
   refine ⟨E.put k1 _,fun h=> ?_,fun _=>⟨b,rfl,k1,Heap.Ac k2⟩⟩
   obtain ⟨b',e',k1',k2'⟩:=h1 (by first|exact h|simp [hd])
   refine ⟨b',e',k1',?_⟩
   rw [Heap.Ag k2 (fun eq=> ?_)]
   ·first|exact k2'|simpa [hd] using k2'
   ·subst eq
    rw [k2] at k2'
    cases h10:L 10<;>rw [h10] at k2'<;>simp [bf2,cC,zC] at k2'
 ·intro L r2 H1 hall hH hr hA
  obtain ⟨E,h1,h2⟩:=hH
  obtain ⟨b,e,_,k2⟩:=h1 (hall 8 (by decide))
  obtain ⟨d,e',_,k2'⟩:=h2 (hall 9 (by decide))
  rw [hall 10 (by decide)] at k2
  rw [hall 13 (by decide)] at k2'
  obtain ⟨_,_,_,_,_,_,_,_,_,_,_,h11,h12,_⟩:=hA
  simp [VL,alXV] at h11 h12
  exact hQ r2 H1 b d e h11 h12 e' E k2 k2'
structure RcI (p q nb:Nat) (cells:List AV) (ps:List Nat) (b bx br:Nat) (c:Cfg) (fs:List Int) (kp:List Bool) (sq:Int) (L:List Txt) (bad:Nat→Prop) (i:Nat×Nat) (r:Regs) (hp:Heap):Prop where
 r3:rg r 3 = .ptr b 0
 r6:rg r 6 = .ptr bx 0
 r7:rg r 7 = .ptr p 0
 r9:rg r 9 = .ptr br 0
 r11:rg r 11 = .int .i64 i.2
 r12:rg r 12 = .int .i64 ((i.1+i.2:Nat):Int)
 gc:hp.get b=some [.int .i64 c.k,.int .i64 c.m,.int .i64 c.sh,.int .i64 c.st,.int .i64 c.sl]
 gx:hp.get bx=some [IL fs,OL kp]
 lt:(i.1:Int) < c.st
 cr:i.2≤fs.length
 ex:∃ pv a,rg r 8 = .ptr pv 0∧LawV p q nb cells ps pv c 0 a sq (fun x=>(x=b∨x=bx)∨x=br) hp∧hp.get br=some (rbC pv i.1)∧SB c a sq L bad i.1∧a.down=false∧Qt a∧(i.2=fs.length→a.left < 0)
theorem Sj (c:Cfg) (ts:List Txt) (d:Int) (x:List Int×List Bool) (_:CfW c) (_:ts.length < 2 ^ 48∧∀ x∈ts,x.length < 2 ^ 63) (hdw:(Lit.int .i64 d).wf=true) (hx:(x.1.length < 2 ^ 48∧∀ y∈x.1,(Lit.int .i64 y).wf=true)∧x.2.length < 2 ^ 48) :
  Aq Tryz.prog 4 [.agg (.int .i64 c.k :: .int .i64 c.m :: .int .i64 c.sh :: .int .i64 c.st :: .int .i64 c.sl :: SL ts :: .int .i64 d :: [IL x.1,OL x.2])] (.bool true):=by
 obtain ⟨fs,kp⟩:=x
 simp only at hx
 obtain ⟨⟨_,hfw⟩,hkp⟩:=hx
 refine Aq.Az (k:=1) ?_
 refine CSem.body hm Tryz.func4 rfl (by kernel_rfl) (by kernel_rfl) (by simp [Tryz.ntmps4]) ?_
 have haggC:aggT Tryz.prog 23=some true:=by kernel_rfl
 have hzC:szT Tryz.prog 23=some 5:=by kernel_rfl
 refine Eg (fun r h=>rg r 1 = .ptr 0 0∧h=Heap.empty.alloc [.int .i64 c.k,.int .i64 c.m,.int .i64 c.sh,.int .i64 c.st,.int .i64 c.sl,SL ts,.int .i64 d,IL fs,OL kp]) ?_ (by simp [AV.cells])
 rintro r _ ⟨r1,rfl⟩
 rw [C8]
 have lp0:(Heap.empty.alloc [.int .i64 c.k,.int .i64 c.m,.int .i64 c.sh,.int .i64 c.st,.int .i64 c.sl,SL ts,.int .i64 d,IL fs,OL kp]).lp=none:=rfl
 refine alX rfl r1 (Heap.A9 _ _) fun r H1 b bx r3 r4 r5 r6 E1 g1 gx1=> ?_
 have lp1:H1.lp=none:=E1.lp.trans lp0
 clear E1 lp0 r1
 simp only [cC] at g1
 have hbl:=Heap.Ah g1
 have hbx:=Heap.Ah gx1
 have hout:∀ (h:Heap) (K:AV→Heap→Prop),K (.bool true) h→Call Tryz.prog 15 [] h K:=out18
 simp [r3,g1,Ab haggC,hzC,takeN]
 refine (Xg c _).use ?_
 by_cases hT:SmL c
 rotate_left
 ·simp [hT]
  refine hout _ _ ?_
  simp
 by_cases hw6:(6:Int) < ts.length
 ·simp [hT,r4,hw6]
  refine hout _ _ ?_
  simp
 by_cases d0:d < 0
 ·simp [hT,r4,r5,hw6,d0]
  refine hout _ _ ?_
  simp
 have hkm:IntKind.i64.wrap (c.k+c.m)=c.k+c.m:=by
  have:=Bk hT.1
  have:=hT.2.1
  exact wrap64 (by omega) (by omega)
 by_cases d1:c.k+c.m≤d
 ·simp [hT,r3,r4,r5,hw6,d0,A8,g1,hkm,d1]
  refine hout _ _ ?_
  simp
 by_cases hf5:(5:Int) < fs.length
 ·simp [hT,r3,r4,r5,r6,hw6,d0,A8,g1,gx1,hkm,d1,hf5]
  refine hout _ _ ?_
  simp
 simp [hT,r3,r4,r5,r6,hw6,d0,A8,g1,gx1,hkm,d1,hf5,Ab haggC,hzC,takeN]
 obtain ⟨hC,t1,t2,t3,t4⟩:=hT
 have h0:=Bk hC
 have hst:1≤c.st:=hC.2.2.2.1.1
 have hm1:1≤c.m:=by have:=hC.1.2.1;have:=hC.2.1;omega
 refine (Xf hC ⟨t1,t3⟩ (ts:=ts) (tv:=SL ts) (by omega) _ (.inl rfl) lp1).then ?_
 rintro _ H2 ⟨p,q,nb,cells,ps,pv,rfl,LH,F2⟩
 have LH:=LH.less (E':=fun x=>x=b∨x=bx) fun x hx=>by rcases hx with rfl|rfl;exact hbl;exact hbx
 have g2:=(F2 b hbl).trans g1
 have gx2:=(F2 bx hbx).trans gx1
 obtain ⟨W,s0,s1⟩:=Jp hC ts ts.length (by omega)
 generalize Ga c ts ts.length=aq at LH W s0 s1
 generalize A9q c ts ts.length=L at W
 obtain ⟨a0,sq⟩:=aq
 simp only at LH W s0 s1
 have hD:(a0.disks.length:Int)=c.k+c.m:=LH.len
 obtain ⟨dd,rfl⟩:=Int.eq_ofNat_of_zero_le (show 0≤d by omega)
 obtain ⟨R0,R0l⟩:=W.rb (d:=dd) (by omega)
 simp [r5]
 refine (LH.A7s W.v.dn dd).then ?_
 rintro _ H4 ⟨_,q2⟩
 obtain ⟨br,rfl,L4,gb4,F4,hne⟩:=q2 (by omega)
 have n1:=hne b (.inl rfl)
 have n2:=hne bx (.inr rfl)
 have g4:=(F4 b (.inl rfl)).trans g2
 have gx4:=(F4 bx (.inr rfl)).trans gx2
 clear LH g2 F2 g1 lp1 gx2 gx1 F4
 simp
 refine Am (RcI p q nb cells ps b bx br c fs kp sq L (fun e=>e=dd)) (fun i=>(c.st - i.1).toNat+(fs.length - i.2)) ?_ (0,0) ?_
 rotate_left
 ·exact ⟨by simpa using r3,by simpa using r6,by simp,by simp,by simp,by simp,g4,gx4,by simp;omega,by simp,pv,_,by simp,L4,gb4,R0.sb hm1,R0.dn,R0.qt,fun _=>R0.lf⟩
 clear L4 g4 gx4 gb4 R0 R0l r3 r4 r5 r6
 rintro ⟨n,cr⟩ r hp ⟨r3,r6,r7,r9,r11,r12,gc,gx,hlt,hcr,pv,a,r8,H,gb,B,hdn,hqt,hlf⟩
 simp only at r11 r12 hcr B hlf hlt gb
 have hw2:IntKind.i64.wrap (c.st+(cr:Int))=c.st+cr:=wrap64 (by omega) (by omega)
 have hw3:IntKind.i64.wrap ((cr:Int)+1)=(cr:Int)+1:=wrap64 (by omega) (by omega)
 have hw4:IntKind.i64.wrap ((n:Int)+cr+1)=(n:Int)+cr+1:=wrap64 (by omega) (by omega)
 have hgt:¬(c.st+(cr:Int) < (n:Int)+cr):=by omega
 rw [C8,Qn,C8]
 refine Fb (fun r'' h'=>(∀ t,t < 19→rg r'' t=rg r t)∧hp=h') ?_ ?_
 ·simp [r3,r11,r12,A8,gc,hw2,hgt]
  intro t ht
  repeat rw [if_neg (by omega)]
 rintro r2 _ ⟨old2,rfl⟩
 have q3:=(old2 3 (by decide)).trans r3
 have q6:=(old2 6 (by decide)).trans r6
 have q7:=(old2 7 (by decide)).trans r7
 have q11:=(old2 11 (by decide)).trans r11
 rw [De,C8]
 refine Fb (fun r'' h'=>(∀ t,t < 19→rg r'' t=rg r2 t)∧∃ a',LawV p q nb cells ps pv c 0 a' sq (fun x=>(x=b∨x=bx)∨x=br) h'∧Fr' (fun x=>(x=b∨x=bx)∨x=br) hp h'∧SB c a' sq L (fun e=>e=dd) n∧a'.down=false∧Qt a'∧(cr=fs.length→a'.left < 0)) ?_ ?_
 ·by_cases hcl:cr < fs.length
  ·have hcl':(cr:Int) < fs.length:=by omega
   by_cases hf0:0≤fs[cr]
   ·simp [I64,q6,q7,q11,A8,gx,hcl,hcl',hf0]
    refine (H.fuse fs[cr] (A9z (hfw fs[cr] (List.getElem_mem hcl)))).then ?_
    rintro _ h' ⟨rfl,H',F'⟩
    obtain ⟨e1,e2,_⟩:=Ty a fs[cr]
    simp
    refine ⟨fun t ht=> ?_,_,H',F',B.fuse _,by rw [e2];exact hdn,fun y hy=>hqt y (by rw [e1] at hy;exact hy),fun h=>by omega⟩
    repeat rw [if_neg (by omega)]
   ·simp [I64,q6,q7,q11,A8,gx,hcl,hcl',hf0]
    refine ⟨fun t ht=> ?_,_,H,Fr'.refl _ _,B,hdn,hqt,hlf⟩
    repeat rw [if_neg (by omega)]
  ·have hcl':¬(cr:Int) < fs.length:=by omega
   simp [I64,q6,q7,q11,A8,gx,hcl,hcl']
   refine ⟨fun t ht=> ?_,_,H,Fr'.refl _ _,B,hdn,hqt,hlf⟩
   repeat rw [if_neg (by omega)]
 rintro r4 h4 ⟨old4,a4,H4,F4,B4,hdn4,hqt4,hlf4⟩
 have old5:∀ t,t < 19→rg r4 t=rg r t:=fun t ht=>(old4 t ht).trans (old2 t ht)
 have p3:=(old5 3 (by decide)).trans r3
 have p6:=(old5 6 (by decide)).trans r6
 have p7:=(old5 7 (by decide)).trans r7
 have p8:=(old5 8 (by decide)).trans r8
 have p9:=(old5 9 (by decide)).trans r9
 have p11:=(old5 11 (by decide)).trans r11
 have p12:=(old5 12 (by decide)).trans r12
 have gc4:=(F4 b (.inl (.inl rfl))).trans gc
 have gx4:=(F4 bx (.inl (.inr rfl))).trans gx
 have gb4:=(F4 br (.inr rfl)).trans gb
 clear H B hdn hqt hlf gc gx gb F4 old2 old4 old5 q3 q6 q7 q11
 rw [De]
 simp [p9]
 refine (H4.A9x hC (by decide) (.inr rfl) gb4 1).then ?_
 rintro _ h5 ⟨rfl,H5,gb5,F5⟩
 have gc5:=(F5 b ⟨.inl (.inl rfl),n1⟩).trans gc4
 have gx5:=(F5 bx ⟨.inl (.inr rfl),n2⟩).trans gx4
 have hst4:=B4.step hC hdn4 hqt4 (by omega) hlt (many:=1) (by omega)
 generalize Bj a4 7 c n 1=ST at H5 gb5 hst4 ⊢
 rcases hst4 with ⟨e1,e2,e3,elo,n',e4,e5,e6,e7,B6⟩|⟨e1,e2,B6⟩
 ·have H7:=H5.mono (H5.q.qt e3)
  have hE:rstE ST=0:=by unfold rstE;rw [if_pos e1,if_neg (by omega)]
  have hN:rstN ST n=n':=by unfold rstN;rw [if_pos e1,e4]
  have hDd:rstD ST=decide ((n':Int)=c.st):=by unfold rstD;rw [e1,elo,e6];simp
  rw [hN] at gb5
  rw [hE,hDd]
  by_cases hfin:(n':Int)=c.st
  ·obtain ⟨V,hl,hsd⟩:=B6.done hst t1 hfin e2 e3
   simp [hfin,p8]
   refine (H7.A29 hC (by decide) (by rw [hl];exact ⟨by (try simp only);omega,by (try simp only);omega⟩)).use ?_
   rw [hsd]
   simp [p3,A8,gc5]
   refine hout _ _ ?_
   simp
  ·simp [hfin,p12,hw4]
   refine ⟨n',cr,?_,by simpa using p3,by simpa using p6,by simpa using p7,by simpa using p9,by simpa using p11,?_,gc5,gx5,?_,hcr,pv,ST.ar,by simpa using p8,H7,gb5,B6,e2,e3,fun h=>e7 (hlf4 h)⟩
   ·(try simp only);omega
   ·simp only
    push_cast
    simp
    omega
   ·(try simp only);omega
 ·have hE:rstE ST=9:=by unfold rstE;rw [if_neg (by omega),e1]
  have hN:rstN ST n=n:=by unfold rstN;rw [if_neg (by omega)]
  rw [hN] at gb5
  rw [hE]
  have hcl:cr < fs.length:=by
   rcases Nat.lt_or_eq_of_le hcr with h|h
   ·exact h
   ·exact (e2 (hlf4 h)).elim
  simp [p6,p7,p11,hw3,A8,gx5]
  refine (H5.Bb (by decide) kp (by omega)).then ?_
  rintro _ h7 ⟨rfl,H7,F7⟩
  obtain ⟨o1,o2,o3,o4,o5,o6,o7,o8⟩:=B6.A27 kp (by omega)
  have gc7:=(F7 b (.inl (.inl rfl))).trans gc5
  have gx7:=(F7 bx (.inl (.inr rfl))).trans gx5
  have gb7:=(F7 br (.inr rfl)).trans gb5
  have hal:(ST.ar.Bb kp).disks.length=ST.ar.disks.length:=Arr.M9 _ _
  simp [p7]
  refine (H7.opened t3 o3 o1 o2 o5 (by rw [o6,hal])).then ?_
  rintro _ h8 ⟨pw,rfl,H8,F8,gv8⟩
  have gc8:=(F8 b (.inl (.inl (.inl rfl)))).trans gc7
  have gx8:=(F8 bx (.inl (.inl (.inr rfl)))).trans gx7
  have gb8:=(F8 br (.inl (.inr rfl))).trans gb7
  simp [p9]
  refine (LawV.ragain gb8 gv8 H8.gv).then ?_
  rintro _ h9 ⟨rfl,rfl⟩
  have H9:=(H8.put (.inl (.inr rfl)) (rbC pw n) gb8).less (E':=fun x=>(x=b∨x=bx)∨x=br) fun x hx=> .inl hx
  have gc9:(h8.put br (rbC pw n)).get b=_:=(Heap.Ag gb8 n1).trans gc8
  have gx9:(h8.put br (rbC pw n)).get bx=_:=(Heap.Ag gb8 n2).trans gx8
  have gb9:(h8.put br (rbC pw n)).get br=_:=Heap.Ac gb8
  simp [p12,hw4]
  refine ⟨n,cr+1,?_,by simpa using p3,by simpa using p6,by simpa using p7,by simpa using p9,by simp,?_,gc9,gx9,hlt,hcl,pw,_,by simp,H9,gb9,o8,o4,o5,fun _=>o7⟩
  ·(try simp only);omega
  ·simp only
   push_cast
   simp
   omega
end Go.Proofs.YtpabfpccpbakfaaGreatDoor.X
