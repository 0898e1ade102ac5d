/-
  LogScripts.
-/
import Derived.Test.YtmbndhciflilbaaGreatDoorW08
namespace Go.Proofs.YtmbndhciflilbaaGreatDoor.X
open Go.RowKit F
set_option maxRecDepth 100000
set_option linter.unusedSimpArgs false
set_option linter.unusedVariables false
section
variable {p q nb:Nat} {cells:List AV} {ps:List Nat} {pv lb wb f count mb bo bc:Nat} {c:Cfg} {a:Arr} {sq:Int} {E:Nat→Prop} {hp h':Heap} {L:List Txt} {T:Txt} {z:Nat}
theorem ls26S {cd:Code} (hc:(Tryz.f3.body).bind (findS 26)=some cd) {r:Regs} {Q:Out→Regs→Heap→Prop} (r9:rg r 9 = .ptr lb 0) (r11:rg r 11 = .ptr mb 0) (r14:rg r 14 = .bool true)
  (S':LgS p q nb cells ps pv lb wb f count c z a sq L T E hp) (gm:hp.get mb=some [S T,.int .i64 ((count * z:Nat):Int)]) (hQ:∀ r',(∀ d,d < 20→rg r' d=rg r d)→Q .norm r' hp):wpc Tryz.prog cd Q r hp:=by
 simp [Tryz.f3,findS] at hc
 subst hc
 rw [wpc_seq]
 refine ls26 rfl r9 r11 r14 S' gm fun r' hr h162=> ?_
 simp [h162]
 exact hQ r' hr
structure LscI (p q nb:Nat) (cells:List AV) (ps:List Nat) (pv f count mb bc:Nat) (c:Cfg) (z:Nat) (L0:List Txt) (os:List LOp) (i:Nat) (r:Regs) (hp:Heap):Prop where
 le:i≤os.length
 r3:rg r 3 = .ptr bc 0
 r4:rg r 4 = .int .i64 f
 r5:rg r 5 = .int .i64 count
 r6:rg r 6=TR LOpC os
 r8:rg r 8 = .ptr pv 0
 r11:rg r 11 = .ptr mb 0
 r12:rg r 12 = .int .i64 i
 gc:hp.get bc=some [.int .i64 c.k,.int .i64 c.m,.int .i64 c.sh,.int .i64 c.st,.int .i64 c.sl]
 ex:∃ lb wb a sq L T,rg r 9 = .ptr lb 0∧LgS p q nb cells ps pv lb wb f count c z a sq L T (fun x=>((x=bc∨x=mb)∨x=lb)∨x=wb) hp∧hp.get mb=some [S T,.int .i64 ((count * z:Nat):Int)]∧OutL L0 L f count∧sq≤100+6 * i∧mb≠lb∧mb≠wb∧bc≠wb∧bc≠mb∧bc≠lb
end
theorem logScripts_pure (c:Cfg) (from_ cnt:Int) (os:List LOp) (_:CfW c) (hfw:(Lit.int .i64 from_).wf=true) (hcw:(Lit.int .i64 cnt).wf=true) (hos:os.length < 2 ^ 48∧∀ x∈os,LOpW x) :
  CPure Tryz.prog 3 [.agg [.int .i64 c.k,.int .i64 c.m,.int .i64 c.sh,.int .i64 c.st,.int .i64 c.sl,.int .i64 from_,.int .i64 cnt,TR LOpC os]] (.bool true):=by
 refine CPure.of_sem (k:=1) ?_
 refine CSem.body hm Tryz.func3 rfl (by kernel_rfl) (by kernel_rfl) (by simp [Tryz.ntmps3]) ?_
 simp only [Tryz.f3]
 generalize hg28:Code.seq (Code.region 28 _ _) _=c28
 generalize hg18:Code.seq (Code.region 18 _ _) _=c18
 generalize hg26:Code.seq (Code.region 26 _ _) _=c26
 have hc28:(Tryz.f3.body).bind (findS 28)=some c28:=by rw [←hg28];rfl
 have hc18:(Tryz.f3.body).bind (findS 18)=some c18:=by rw [←hg18];rfl
 have hc26:(Tryz.f3.body).bind (findS 26)=some c26:=by rw [←hg26];rfl
 clear hg28 hg18 hg26
 have haggC:aggT Tryz.prog 23=some true:=by kernel_rfl
 have hzC:szT Tryz.prog 23=some 5:=by kernel_rfl
 have haggO:aggT Tryz.prog 40=some true:=by kernel_rfl
 have hzO:szT Tryz.prog 40=some 3:=by kernel_rfl
 have hzzO:zeroAV Tryz.prog 40=some (.agg [.int .i64 0,.int .i64 0,S []]):=by kernel_rfl
 have hel:(elT Tryz.prog 24).isSome=true:=by kernel_rfl
 have hez:(elT Tryz.prog 24).bind (szT Tryz.prog)=some 3:=by kernel_rfl
 have hout:∀ (h:Heap) (K:AV→Heap→Prop),K (.bool true) h→Call Tryz.prog 10 [] h K:=out22
 refine wpc_st (fun r h=>rg r 1 = .ptr 0 0∧h=Heap.empty.alloc [.int .i64 c.k,.int .i64 c.m,.int .i64 c.sh,.int .i64 c.st,.int .i64 c.sl,.int .i64 from_,.int .i64 cnt,TR LOpC os]) ?_ (by simp [AV.cells];rfl)
 rintro r _ ⟨r1,rfl⟩
 have lp0:(Heap.empty.alloc [.int .i64 c.k,.int .i64 c.m,.int .i64 c.sh,.int .i64 c.st,.int .i64 c.sl,.int .i64 from_,.int .i64 cnt,TR LOpC os]).lp=none:=rfl
 have g0:(Heap.empty.alloc [.int .i64 c.k,.int .i64 c.m,.int .i64 c.sh,.int .i64 c.st,.int .i64 c.sl,.int .i64 from_,.int .i64 cnt,TR LOpC os]).get 0=some _:=Heap.get_alloc_same Heap.empty _
 generalize Heap.empty.alloc [.int .i64 c.k,.int .i64 c.m,.int .i64 c.sh,.int .i64 c.st,.int .i64 c.sl,.int .i64 from_,.int .i64 cnt,TR LOpC os]=H0 at g0 lp0 ⊢
 rw [wpc_seq]
 refine alS rfl r1 g0 fun r r3 r4 r5 r6=> ?_
 have g1:((H0.alloc zC).put H0.next (cC c)).get H0.next=some (cC c):=Heap.get_put_same (Heap.get_alloc_same _ _)
 have lp1:((H0.alloc zC).put H0.next (cC c)).lp=none:=lp0
 generalize (H0.alloc zC).put H0.next (cC c)=H1 at g1 lp1 ⊢
 generalize H0.next=bc at r3 g1
 clear g0 lp0 r1
 simp only [cC] at g1
 have hbl:=Heap.get_lt g1
 simp [r3,g1,loadX_agg haggC,hzC,takeN]
 refine (rtiny_call c _).use ?_
 by_cases hT:SmL c
 rotate_left
 ·simp [hT]
  refine hout _ _ ?_
  simp
 by_cases hw12:(12:Int) < os.length
 ·simp [hT,r6,hw12,lenX_TR hel]
  refine hout _ _ ?_
  simp
 simp [hT,r3,r6,hw12,lenX_TR hel,g1,loadX_agg haggC,hzC,takeN]
 obtain ⟨hC,t1,t2,t3,t4⟩:=hT
 have h0:=conf_sl hC
 have hst:1≤c.st:=hC.2.2.2.1.1
 have hcap:=cap_eq hC
 have hsz:8≤c.k * c.sh:=by
  have hkk:=hC.2.2.1
  have:1 * 8≤c.k * c.sh:=Int.mul_le_mul (by omega) (by omega) (by omega) (by omega)
  omega
 have hk4:=hC.2.2.2.2.2
 obtain ⟨z,hz⟩:=Int.eq_ofNat_of_zero_le (show 0≤confCap c by omega)
 have hz:(z:Int)=confCap c:=hz.symm
 have hzl:z≤4000:=by omega
 refine (made22_sem hC ⟨t1,t3⟩ _ lp1).then ?_
 rintro _ H2 ⟨p,q,nb,cells,ps,pv,rfl,LH,F2⟩
 have LH:LawV p q nb cells ps pv c 0 (madeL c [] 0).1 (madeL c [] 0).2 (fun x=>x=bc) H2:=LH.less fun x hx=>by rw [hx];exact hbl
 have g2:=(F2 bc hbl).trans g1
 obtain ⟨W,s0,s1⟩:=made_ok hC [] 0 (by omega)
 generalize madeL c [] 0=aq at LH W s0 s1
 obtain ⟨a0,sq⟩:=aq
 simp only at LH W s0 s1
 have hM:madeM c [] 0=List.replicate c.st.toNat []:=rfl
 rw [hM] at W
 have hem:∀ i,i < c.st.toNat→(List.replicate c.st.toNat ([]:Txt))[i]? = some []:=fun i hi=>by rw [List.getElem?_replicate,if_pos hi]
 by_cases hbad:from_ < 0∨cnt < 1∨c.st < from_∨c.st - from_ < cnt
 ·simp [r4,r5]
  refine (lopen_bad LH hC hbad).then ?_
  rintro _ _ ⟨rfl,rfl⟩
  by_cases b1:from_ < 0
  ·simp [r4,b1]
   refine hout _ _ ?_
   simp
  by_cases b2:c.st < from_
  ·simp [r3,r4,b1,b2,fieldAddrX,g2]
   refine hout _ _ ?_
   simp
  by_cases b3:cnt < 1
  ·simp [r3,r4,r5,b1,b2,b3,fieldAddrX,g2]
   refine hout _ _ ?_
   simp
  have hw:IntKind.i64.wrap (c.st - from_)=c.st - from_:=wrap64 (by omega) (by omega)
  have b4:c.st - from_ < cnt:=by omega
  simp [r3,r4,r5,b1,b2,b3,b4,hw,fieldAddrX,g2]
  refine hout _ _ ?_
  simp
 obtain ⟨f,hf⟩:=Int.eq_ofNat_of_zero_le (show 0≤from_ by omega)
 have hf:from_=(f:Int):=hf
 obtain ⟨count,hcn⟩:=Int.eq_ofNat_of_zero_le (show 0≤cnt by omega)
 have hcn:cnt=(count:Int):=hcn
 subst hf hcn
 simp [r4,r5]
 refine (LgS.new (z:=z) (f:=f) (count:=count) LH hC hz t3 W (by rw [List.length_replicate];omega) s0 (by omega) (by omega) (fun i hi=>hem _ (by omega))).then ?_
 rintro _ H3 ⟨lb,wb,rfl,S3,F3,hne3⟩
 have g3:=(F3 bc rfl).trans g2
 obtain ⟨n1,n2⟩:=hne3 bc rfl
 have hw:IntKind.i64.wrap (c.st - (f:Int))=c.st - f:=wrap64 (by omega) (by omega)
 have b1:¬(f:Int) < 0:=by omega
 have b2:¬c.st < (f:Int):=by omega
 have b3:¬(count:Int) < 1:=by omega
 have b4:¬c.st - (f:Int) < count:=by omega
 simp [r3,r4,r5,b1,b2,b3,b4,hw,fieldAddrX,g3,loadX_agg haggC,hzC,takeN]
 refine (rlnew_sem (c:=c) (count:=count) (by omega) (by omega) ⟨by omega,by omega⟩ _).then ?_
 rintro _ H4 ⟨X4,mb,rfl,hmb,gm⟩
 have e1:=S3.H.lt S3.h1
 have e2:=S3.H.lt S3.h2
 have e3:=S3.H.lt (.inl (.inl rfl))
 have g4:=X4.got g3
 have hml:=Heap.get_lt gm
 have hcm:(count:Int) * confCap c=((count * z:Nat):Int):=by rw [←hz];push_cast;rfl
 rw [hcm] at gm
 have S4:LgS p q nb cells ps pv lb wb f count c z a0 sq (List.replicate c.st.toNat []) [] (fun x=>((x=bc∨x=mb)∨x=lb)∨x=wb) H4:=by
  refine ⟨(S3.H.ext X4).less fun x hx=> ?_,S3.G,S3.A.keep (X4.get lb e1) (X4.get wb e2),S3.le,S3.lf,.inl (.inr rfl),.inr rfl,hC,hz,t3⟩
  rcases hx with ((rfl|rfl)|rfl)|rfl
  ·exact .inl (.inl (.inl rfl))
  ·exact .inr ⟨hmb,hml⟩
  ·exact .inl (.inl (.inr rfl))
  ·exact .inl (.inr rfl)
 simp
 refine wpc_loop (LscI p q nb cells ps pv f count mb bc c z (List.replicate c.st.toNat []) os) (os.length - ·) ?_ 0 ?_
 rotate_left
 ·exact ⟨by omega,by simpa using r3,by simpa using r4,by simpa using r5,by simpa using r6,by simp,by simp,by simp,g4,lb,wb,a0,sq,_,[],by simp,S4,gm,OutL.refl _ _ _,by omega,by omega,by omega,n2,by omega,n1⟩
 clear S4 S3 g4 gm g3 g2 F3 F2 LH hml hmb X4 e1 e2 e3 hne3 n1 n2 r3 r4 r5 r6 g1 lp1 hbl W s0 s1 lb wb
 rintro i r hp ⟨le,r3,r4,r5,r6,r8,r11,r12,gc,lb,wb,a,sq,L,T,r9,S',gm,O',hsq,m1,m2,m3,m4,m5⟩
 obtain ⟨hz0,hz13,hc6,hcz,_⟩:=S'.sizes
 have hle:=S'.le
 rcases Nat.lt_or_eq_of_le le with hlt|heq
 rotate_left
 ·subst heq
  simp [r6,r12,lenX_TR hel]
  refine ls28 hc28 (by simpa using r3) (by simpa using r4) (by simpa using r5) (by simpa using r8) S' gc O' fun r'=> ?_
  simp
  refine hout _ _ ?_
  simp
 have hlt':(i:Int) < os.length:=by omega
 have hw1:IntKind.i64.wrap ((i:Int)+1)=(i:Int)+1:=wrap64 (by omega) (by omega)
 have hLl:∀ o,(LOpC o).length=3:=fun _=>rfl
 have htk:takeN ((os.map LOpC).flatten.drop (i * 3)) 0 3=some (LOpC os[i]):=by
  have:=takeR_at (g:=LOpC) (z:=3) hLl (rest:=[]) hlt
  rwa [List.append_nil] at this
 have hoW:=hos.2 os[i] (List.getElem_mem hlt)
 have ea:∀ zs,(hp.alloc zs).get hp.next=some zs:=fun zs=>Heap.get_alloc_same hp zs
 simp [r6,r12,hlt,hlt',lenX_TR hel,indexAddrX_TR hez,loadX_iptA haggO hzO,htk,hzzO,AV.cells,storeX_agg,hzO,ea]
 generalize os[i]=o at htk hoW ⊢
 refine ⟨⟨hLl o,fun x hx=>List.all_eq_true.1 (show (LOpC o).all AV.atom=true from rfl) x hx⟩,?_⟩
 simp only [show putN [AV.int IntKind.i64 0,AV.int IntKind.i64 0,S []] 0 (LOpC o)=some (LOpC o) from rfl,Has_some]
 obtain ⟨S1,go,F1,hnb⟩:=S'.box [AV.int IntKind.i64 0,AV.int IntKind.i64 0,S []] (LOpC o)
 have gm1:=(F1 mb (.inl (.inl (.inr rfl)))).trans gm
 have gc1:=(F1 bc (.inl (.inl (.inl rfl)))).trans gc
 have nbm:=hnb mb (.inl (.inl (.inr rfl)))
 have nbw:=hnb wb (.inr rfl)
 have nbl:=hnb lb (.inl (.inr rfl))
 have nbc:=hnb bc (.inl (.inl (.inl rfl)))
 generalize (hp.alloc [AV.int IntKind.i64 0,AV.int IntKind.i64 0,S []]).put hp.next (LOpC o)=H1 at S1 go gm1 gc1 ⊢
 generalize hp.next=bo at S1 go nbm nbw nbl nbc ⊢
 clear htk ea F1 hnb S' gm gc
 have hos63:o.s.length < 2 ^ 63:=hoW.2.2
 simp
 refine ls18 hc18 (by simpa using r4) (by simpa using r5) (by simpa using r8) (by simpa using r9) (by simpa using r11) (by simp) S1 gm1 go (by omega) (by omega) hos63 m1 m2 m3 m4 m5 nbm nbw fun r' h' hr h14 hex=> ?_
 obtain ⟨lb',wb',a',sq',L',T',q9,S2,gm2,gc2,O2,hsq2,k1,k2,k3,k4,k5⟩:=hex
 have gc2:=gc2.trans gc1
 refine ls26S hc26 q9 ((hr 11 (by decide) (by decide)).trans (by simpa using r11)) h14 S2 gm2 fun r3' hr3=> ?_
 have p3:=(hr3 3 (by decide)).trans ((hr 3 (by decide) (by decide)).trans (by simpa using r3))
 have p4:=(hr3 4 (by decide)).trans ((hr 4 (by decide) (by decide)).trans (by simpa using r4))
 have p5:=(hr3 5 (by decide)).trans ((hr 5 (by decide) (by decide)).trans (by simpa using r5))
 have p6:=(hr3 6 (by decide)).trans ((hr 6 (by decide) (by decide)).trans (by simpa using r6))
 have p8:=(hr3 8 (by decide)).trans ((hr 8 (by decide) (by decide)).trans (by simpa using r8))
 have p11:=(hr3 11 (by decide)).trans ((hr 11 (by decide) (by decide)).trans (by simpa using r11))
 have p12:=(hr3 12 (by decide)).trans ((hr 12 (by decide) (by decide)).trans (by simpa using r12))
 simp [p12,hw1]
 exact ⟨i+1,by omega,by omega,by simpa using p3,by simpa using p4,by simpa using p5,by simpa using p6,by simpa using p8,by simpa using p11,by simp,gc2,lb',wb',a',sq',L',T',by simpa using (hr3 9 (by decide)).trans q9,S2,gm2,O'.trans O2,by push_cast;omega,k1,k2,k3,k4,k5⟩
end Go.Proofs.YtmbndhciflilbaaGreatDoor.X
