/-
  LogParts.
-/
import Derived.Test.YtmbndhciflilbaaGreatDoorW09
namespace Go.Proofs.YtmbndhciflilbaaGreatDoor.X
open Go.RowKit F
set_option maxRecDepth 100000
set_option linter.unusedSimpArgs false
set_option linter.unusedVariables false
theorem logParts_pure (c:Cfg) (ts:List Txt) (_:CfW c) (hts:ts.length < 2 ^ 48) (htl:∀ x∈ts,x.length < 2 ^ 63):CPure Tryz.prog 5 [CfA c,SL ts] (.bool true):=by
 refine CPure.of_sem (k:=2) ?_
 refine CSem.body hm Tryz.func5 rfl (by kernel_rfl) (by kernel_rfl) (by simp [Tryz.ntmps5]) ?_
 simp only [Tryz.f5]
 generalize hg10:Code.seq (Code.region 10 _ _) _=c10
 generalize hg16:Code.seq (Code.region 16 _ _) _=c16
 generalize hg18:Code.seq (Code.region 18 _ _) _=c18
 have hc10:(Tryz.f5.body).bind (findS 10)=some c10:=by rw [←hg10];rfl
 have hc16:(Tryz.f5.body).bind (findS 16)=some c16:=by rw [←hg16];rfl
 have hc18:(Tryz.f5.body).bind (findS 18)=some c18:=by rw [←hg18];rfl
 clear hg10 hg16 hg18
 have haggC:aggT Tryz.prog 23=some true:=by kernel_rfl
 have hzC:szT Tryz.prog 23=some 5:=by kernel_rfl
 have hcC:(CfA c).cells=[.int .i64 c.k,.int .i64 c.m,.int .i64 c.sh,.int .i64 c.st,.int .i64 c.sl]:=rfl
 have hout:∀ (h:Heap) (K:AV→Heap→Prop),K (.bool true) h→Call Tryz.prog 10 [] h K:=out22
 refine wpc_st (fun r h=>rg r 1=SL ts∧rg r 2 = .ptr 0 0∧h=Heap.empty.alloc [.int .i64 c.k,.int .i64 c.m,.int .i64 c.sh,.int .i64 c.st,.int .i64 c.sl]) ?_ (by simp [hcC])
 rintro r _ ⟨r1,r2,rfl⟩
 have g1:(Heap.empty.alloc [.int .i64 c.k,.int .i64 c.m,.int .i64 c.sh,.int .i64 c.st,.int .i64 c.sl]).get 0=some [.int .i64 c.k,.int .i64 c.m,.int .i64 c.sh,.int .i64 c.st,.int .i64 c.sl]:=Heap.get_alloc_same Heap.empty _
 have lp1:(Heap.empty.alloc [.int .i64 c.k,.int .i64 c.m,.int .i64 c.sh,.int .i64 c.st,.int .i64 c.sl]).lp=none:=rfl
 generalize (Heap.empty.alloc [.int .i64 c.k,.int .i64 c.m,.int .i64 c.sh,.int .i64 c.st,.int .i64 c.sl])=H1 at g1 lp1 ⊢
 have hbl:=Heap.get_lt g1
 simp [r2,g1,loadX_agg haggC,hzC,takeN]
 refine (rtiny_call c _).use ?_
 by_cases hT:SmL c
 rotate_left
 ·simp [hT]
  refine hout _ _ ?_
  simp
 by_cases hw8:(8:Int) < ts.length
 ·simp [hT,r1,hw8]
  refine hout _ _ ?_
  simp
 simp [hT,r1,r2,hw8,g1,loadX_agg haggC,hzC,takeN]
 obtain ⟨hC,t1,t2,t3,t4⟩:=hT
 have h0:=conf_sl hC
 have hst:1≤c.st:=hC.2.2.2.1.1
 have hcap:=cap_eq hC
 have hsz:8≤c.k * c.sh:=by
  have hkk:=hC.2.2.1
  have:1 * 8≤c.k * c.sh:=Int.mul_le_mul (by omega) (by omega) (by omega) (by omega)
  omega
 have hk4:=hC.2.2.2.2.2
 obtain ⟨z,hz⟩:=Int.eq_ofNat_of_zero_le (show 0≤confCap c by omega)
 have hz:(z:Int)=confCap c:=hz.symm
 obtain ⟨n1,hn1⟩:=Int.eq_ofNat_of_zero_le (show 0≤c.st by omega)
 have hn1:c.st=(n1:Int):=hn1
 refine (made22_sem hC ⟨t1,t3⟩ _ lp1).then ?_
 rintro _ H2 ⟨p,q,nb,cells,ps,pv,rfl,LH,F2⟩
 have LH:LawV p q nb cells ps pv c 0 (madeL c [] 0).1 (madeL c [] 0).2 (fun x=>x=0) H2:=LH.less fun x hx=>by rw [hx];exact hbl
 have g2:=(F2 0 hbl).trans g1
 have hbl2:=Heap.get_lt g2
 obtain ⟨W,s0,s1⟩:=made_ok hC [] 0 (by omega)
 simp [r2,g2,loadX_agg haggC,hzC,takeN]
 refine (made22_sem hC ⟨t1,t3⟩ _ LH.lp).then ?_
 rintro _ H3 ⟨p',q',nb',cells',ps',pv',rfl,LH',F3⟩
 have g3:=(F3 0 hbl2).trans g2
 have hn3:H2.next≤H3.next:=by
  have:=LH'.lt (b:=H2.next - 1) (by omega)
  omega
 have hpv3:pv' ≥ H2.next:=by
  rcases Nat.lt_or_ge pv' H2.next with h|h
  ·exact ((LH'.ne pv' h) rfl).elim
  ·exact h
 have T2:=(TwoV.make LH (fun x hx=>by rw [hx];exact hbl2) LH' F3 hpv3 hn3 LH'.lp).swap
 generalize madeL c [] 0=aq at T2 W s0 s1
 clear LH LH'
 obtain ⟨a0,sq⟩:=aq
 simp only at T2 W s0 s1
 have hM:madeM c [] 0=List.replicate c.st.toNat []:=rfl
 rw [hM] at W
 have hem:∀ i,i < c.st.toNat→(List.replicate c.st.toNat ([]:Txt))[i]? = some []:=fun i hi=>by rw [List.getElem?_replicate,if_pos hi]
 simp [r2,fieldAddrX,g3]
 rw [hn1]
 obtain ⟨E1,hE1,LV1,k1⟩:=T2.open1
 refine (LgS.new (z:=z) (f:=0) (count:=n1) LV1 hC hz t3 W (by rw [List.length_replicate];omega) s0 (by omega) (by omega) (fun i hi=>hem _ (by omega))).then ?_
 rintro _ H4 ⟨lb,wb,rfl,S4,F4,hne4⟩
 have T4:=k1 S4.H F4 hne4
 have g4:=(F4 0 (hE1 0 rfl)).trans g3
 simp [r2,fieldAddrX,g4]
 rw [hn1]
 obtain ⟨E2,hE2,LV2,k2⟩:=T4.swap.open1
 refine (LgS.new (z:=z) (f:=0) (count:=n1) LV2 hC hz t3 W (by rw [List.length_replicate];omega) s0 (by omega) (by omega) (fun i hi=>hem _ (by omega))).then ?_
 rintro _ H5 ⟨lb',wb',rfl,S5,F5,hne5⟩
 have T5:=(k2 S5.H F5 hne5).swap
 have g5:=(F5 0 (hE2 0 (.inl (.inl rfl)))).trans g4
 have e2l:=hE2 lb (.inl (.inr rfl))
 have e2w:=hE2 wb (.inr rfl)
 have TL5:TwL p q nb cells ps pv lb wb p' q' nb' cells' ps' pv' lb' wb' n1 c z a0 sq (List.replicate c.st.toNat []) [] a0 sq (List.replicate c.st.toNat []) [] (fun x=>(((x=0∨x=lb)∨x=wb)∨x=lb')∨x=wb') H5 :=
  ⟨T5,S4.G,S4.A.keep (F5 lb e2l) (F5 wb e2w),S4.le,S4.lf,S5.G,S5.A,S5.le,S5.lf,.inl (.inl (.inl (.inr rfl))),.inl (.inl (.inr rfl)),.inl (.inr rfl),.inr rfl,(hne5 lb e2l).2,(hne5 wb e2w).1,(hne5 wb e2w).2,hC,hz,t3⟩
 have hcc:(n1:Int)=c.st:=hn1.symm
 simp
 refine lp10 hc10 (by simpa using r1) (by simpa using r2) (by simp) (by simp) (by simp) (by simp) (by simp) g5 TL5 (by omega) (hne4 0 (hE1 0 rfl)).2 (by omega) (fun r' h' h4=>by simp [h4]) fun r' h' I=> ?_
 obtain ⟨_,i1,i2,i6,i8,i9,i11,i13,_,gi,a1,sq1,L1,t1,q1⟩:=I
 rw [List.take_length] at i13 t1
 refine lp16 hc16 i2 i6 i8 i9 i11 i13 gi t1 (by omega) (.inl (.inl (.inl (.inl rfl)))) (hne5 0 (hE2 0 (.inl (.inl rfl)))).2 fun r2' h2 j2 j6 j8 gj ex=> ?_
 obtain ⟨a2,sq2,L2,t2⟩:=ex
 refine lp18 hc18 j2 j6 j8 (gj.trans gi) t2 hcc fun r3'=> ?_
 simp
 refine hout _ _ ?_
 simp
end Go.Proofs.YtmbndhciflilbaaGreatDoor.X
