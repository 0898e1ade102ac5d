/-
  LogAlone.
-/
import Derived.Test.YtmbndhciflilbaaGreatDoorW04
namespace Go.Proofs.YtmbndhciflilbaaGreatDoor.X
open Go.RowKit F
set_option maxRecDepth 100000
set_option linter.unusedSimpArgs false
set_option linter.unusedVariables false
theorem logAlone_pure (c:Cfg) (s t:Txt) (_:CfW c) (hs:s.length < 2 ^ 63) (ht:t.length < 2 ^ 63):CPure Tryz.prog 7 [CfA c,S s,S t] (.bool true):=by
 refine CPure.of_sem (k:=1) ?_
 refine CSem.body hm Tryz.func7 rfl (by kernel_rfl) (by kernel_rfl) (by simp [Tryz.ntmps7]) ?_
 have haggC:aggT Tryz.prog 23=some true:=by kernel_rfl
 have hzC:szT Tryz.prog 23=some 5:=by kernel_rfl
 have hbeq:∀ x y:Bool,binX Tryz.prog .eql 4 (.bool x) (.bool y)=some (.bool (x == y)):=fun x y=>by cases x<;>cases y<;>kernel_rfl
 have hcC:(CfA c).cells=[.int .i64 c.k,.int .i64 c.m,.int .i64 c.sh,.int .i64 c.st,.int .i64 c.sl]:=rfl
 have hout:∀ (h:Heap) (K:AV→Heap→Prop),K (.bool true) h→Call Tryz.prog 10 [] h K:=out22
 refine wpc_st (fun r h=>rg r 1=S s∧rg r 2=S t∧rg r 3 = .ptr 0 0∧h=Heap.empty.alloc [.int .i64 c.k,.int .i64 c.m,.int .i64 c.sh,.int .i64 c.st,.int .i64 c.sl]) ?_ (by simp [hcC])
 rintro r _ ⟨r1,r2,r3,rfl⟩
 have g1:(Heap.empty.alloc [.int .i64 c.k,.int .i64 c.m,.int .i64 c.sh,.int .i64 c.st,.int .i64 c.sl]).get 0=some [.int .i64 c.k,.int .i64 c.m,.int .i64 c.sh,.int .i64 c.st,.int .i64 c.sl]:=Heap.get_alloc_same Heap.empty _
 have lp1:(Heap.empty.alloc [.int .i64 c.k,.int .i64 c.m,.int .i64 c.sh,.int .i64 c.st,.int .i64 c.sl]).lp=none:=rfl
 generalize (Heap.empty.alloc [.int .i64 c.k,.int .i64 c.m,.int .i64 c.sh,.int .i64 c.st,.int .i64 c.sl])=H1 at g1 lp1 ⊢
 have hbl:=Heap.get_lt g1
 simp [r3,g1,loadX_agg haggC,hzC,takeN]
 refine (rtiny_call c _).use ?_
 by_cases hT:SmL c
 rotate_left
 ·simp [hT]
  refine hout _ _ ?_
  simp
 by_cases hs2:c.st < 2
 ·simp [hT,r3,fieldAddrX,g1,hs2]
  refine hout _ _ ?_
  simp
 by_cases hs5:(5000:Int) < s.length
 ·simp [hT,r1,r3,fieldAddrX,g1,hs2,hs5]
  refine hout _ _ ?_
  simp
 by_cases ht5:(5000:Int) < t.length
 ·simp [hT,r1,r2,r3,fieldAddrX,g1,hs2,hs5,ht5]
  refine hout _ _ ?_
  simp
 simp [hT,r1,r2,r3,fieldAddrX,g1,hs2,hs5,ht5,loadX_agg haggC,hzC,takeN]
 obtain ⟨hC,t1,t2,t3,t4⟩:=hT
 have h0:=conf_sl hC
 have hcap:=cap_eq hC
 have hsz:8≤c.k * c.sh:=by
  have hkk:=hC.2.2.1
  have:1 * 8≤c.k * c.sh:=Int.mul_le_mul (by omega) (by omega) (by omega) (by omega)
  omega
 obtain ⟨z,hz⟩:=Int.eq_ofNat_of_zero_le (show 0≤confCap c by omega)
 have hz:(z:Int)=confCap c:=hz.symm
 obtain ⟨n1,hn1⟩:=Int.eq_ofNat_of_zero_le (show 0≤c.st - 1 by omega)
 have hw:IntKind.i64.wrap (c.st - 1)=(n1:Int):=by rw [wrap64 (by omega) (by omega)];exact hn1
 refine (made22_sem hC ⟨t1,t3⟩ _ lp1).then ?_
 rintro _ H2 ⟨p,q,nb,cells,ps,pv,rfl,LH,F2⟩
 have LH:LawV p q nb cells ps pv c 0 (madeL c [] 0).1 (madeL c [] 0).2 (fun x=>x=0) H2:=LH.less fun x hx=>by rw [hx];exact hbl
 have g2:=(F2 0 hbl).trans g1
 obtain ⟨W,s0,s1⟩:=made_ok hC [] 0 (by omega)
 generalize madeL c [] 0=aq at LH W s0 s1
 obtain ⟨a0,sq⟩:=aq
 simp only at LH W s0 s1
 have hM:madeM c [] 0=List.replicate c.st.toNat []:=rfl
 rw [hM] at W
 have hem:∀ i,i < c.st.toNat→(List.replicate c.st.toNat ([]:Txt))[i]? = some []:=fun i hi=>by rw [List.getElem?_replicate,if_pos hi]
 simp
 refine (LgS.new (z:=z) (f:=0) (count:=1) LH hC hz t3 W (by rw [List.length_replicate];omega) s0 (by omega) (by omega) (fun i hi=>hem _ (by omega))).then ?_
 rintro _ H3 ⟨lk,wk,rfl,S3,F3,hne3⟩
 have g3:=(F3 0 rfl).trans g2
 simp [r3,fieldAddrX,g3,hw]
 refine (LgS.new (z:=z) (f:=1) (count:=n1) S3.H hC hz t3 W (by rw [List.length_replicate];omega) s0 (by omega) (by omega) (fun i hi=>hem _ (by omega))).then ?_
 rintro _ H4 ⟨ll,wl,rfl,S4,F4,hne4⟩
 have g4:=(F4 0 (.inl (.inl rfl))).trans g3
 have K4:LgS p q nb cells ps pv lk wk 0 1 c z a0 sq (List.replicate c.st.toNat []) [] (fun x=>(((x=0∨x=lk)∨x=wk)∨x=ll)∨x=wl) H4:=⟨S4.H,S3.G,S3.A.keep (F4 lk S3.h1) (F4 wk S3.h2),S3.le,S3.lf,.inl (.inl S3.h1),.inl (.inl S3.h2),hC,hz,t3⟩
 obtain ⟨m1,m2⟩:=hne4 wk S3.h2
 obtain ⟨m3,m4⟩:=hne4 lk S3.h1
 obtain ⟨m5,m6⟩:=hne4 0 (.inl (.inl rfl))
 simp [r1]
 refine (K4.append_if (s:=s) (by omega) (by omega)).then ?_
 rintro _ H5 ⟨rfl,a5,sq5,L5,K5,F5,O5,q5⟩
 have S5:=S4.other K5 (.inr (by omega)) O5 (F5 ll ⟨S4.h1,Ne.symm m1⟩) (F5 wl ⟨S4.h2,Ne.symm m2⟩)
 simp [r2]
 refine (S5.append_if (s:=t) (by omega) (by omega)).then ?_
 rintro _ H6 ⟨rfl,a6,sq6,L6,S6,F6,O6,q6⟩
 have K6:=K5.other S6 (.inl (by omega)) O6 (F6 lk ⟨K5.h1,m4⟩) (F6 wk ⟨K5.h2,m2⟩)
 have g6:=(F6 0 ⟨.inl (.inl (.inl (.inl rfl))),m6⟩).trans ((F5 0 ⟨.inl (.inl (.inl (.inl rfl))),(hne3 0 rfl).2⟩).trans g4)
 simp
 refine (K6.open_ (by omega)).then ?_
 rintro _ H7 ⟨lx,wx,rfl,X7,F7,_⟩
 have g7:=(F7 0 (.inl (.inl (.inl (.inl rfl))))).trans g6
 have S7:LgS p q nb cells ps pv ll wl 1 n1 c z a6 sq6 L6 _ _ H7:=⟨X7.H,S6.G,S6.A.keep (F7 ll S6.h1) (F7 wl S6.h2),S6.le,S6.lf,.inl (.inl S6.h1),.inl (.inl S6.h2),hC,hz,t3⟩
 simp [r3,fieldAddrX,g7,hw]
 refine (S7.open_ (by omega)).then ?_
 rintro _ H8 ⟨ly,wy,rfl,Y8,F8,_⟩
 have X8:LgS p q nb cells ps pv lx wx 0 1 c z a6 sq6 L6 _ _ H8:=⟨Y8.H,X7.G,X7.A.keep (F8 lx X7.h1) (F8 wx X7.h2),X7.le,X7.lf,.inl (.inl X7.h1),.inl (.inl X7.h2),hC,hz,t3⟩
 simp
 refine X8.text.use ?_
 by_cases hf:s.length≤z
 ·by_cases hg:t.length≤n1 * z
  ·simp [hf,hg,hbeq,r1,r2]
   refine Y8.text.use ?_
   simp [hf,hg,hbeq,r1,r2]
   refine hout _ _ ?_
   simp
  ·have ht0:t≠[]:=fun e=>hg (by rw [e];exact Nat.zero_le _)
   have ht1:¬ []=t:=fun e=>ht0 e.symm
   simp [hf,hg,hbeq,r1,r2]
   refine Y8.text.use ?_
   simp [hf,hg,hbeq,r1,r2,ht0,ht1]
   refine hout _ _ ?_
   simp
 ·have hs0:s≠[]:=fun e=>hf (by rw [e];exact Nat.zero_le _)
  have hs1:¬ []=s:=fun e=>hs0 e.symm
  by_cases hg:t.length≤n1 * z
  ·simp [hf,hg,hbeq,r1,r2,hs0,hs1]
   refine Y8.text.use ?_
   simp [hf,hg,hbeq,r1,r2]
   refine hout _ _ ?_
   simp
  ·have ht0:t≠[]:=fun e=>hg (by rw [e];exact Nat.zero_le _)
   have ht1:¬ []=t:=fun e=>ht0 e.symm
   simp [hf,hg,hbeq,r1,r2,hs0,hs1]
   refine Y8.text.use ?_
   simp [hf,hg,hbeq,r1,r2,ht0,ht1]
   refine hout _ _ ?_
   simp
end Go.Proofs.YtmbndhciflilbaaGreatDoor.X
