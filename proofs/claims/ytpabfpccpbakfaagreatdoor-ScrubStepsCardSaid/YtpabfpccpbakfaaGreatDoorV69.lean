/-
  Contracts: ref06.More, Sum; ref07.Take; ref11.Open.
-/
import Derived.Test.YtpabfpccpbakfaaGreatDoorVG
namespace Go.Proofs.YtpabfpccpbakfaaGreatDoor.X
open Go.RowKit F
set_option maxRecDepth 100000
set_option linter.unusedSimpArgs false
set_option linter.unusedVariables false
structure RmO (s:Txt) (X:Nat) (h1:Heap) (i:Nat) (r:Regs) (h:Heap):Prop where
 le:i≤s.length
 r1:rg r 1=S s
 r5:rg r 5 = .int .u32 (crcL X (s.take i):Nat)
 r6:rg r 6 = .int .i64 i
 hh:h1=h
structure RmI (s:Txt) (z i:Nat) (h1:Heap) (k:Nat) (r:Regs) (h:Heap):Prop where
 le:k≤8
 r1:rg r 1=S s
 r5:rg r 5 = .int .u32 (Kj k z:Nat)
 r6:rg r 6 = .int .i64 i
 r7:rg r 7 = .int .i64 k
 hh:h1=h
theorem A7f (s:Txt) (hl:s.length < 2 ^ 63):Aq Tryz.prog 104 [.int .u32 0,S s] (.int .u32 (crcR s:Nat)):=by
 refine Aq.Az (k:=2) ?_
 refine CSem.body hm Tryz.func104 rfl (by kernel_rfl) (by kernel_rfl) (by simp [Tryz.ntmps104]) ?_
 have x0:intX .xor .u32 0 4294967295=some (.int .u32 4294967295):=by
  have:=Xa (a:=0) (b:=4294967295) (by decide) (by decide) (by decide) (by decide)
  simpa using this
 simp [Tryz.f104,x0]
 refine Am (RmO s 4294967295 Heap.empty) (s.length - ·) ?_ 0 ?_
 rotate_left
 ·exact ⟨by omega,by simp,by simp [crcL],by simp,rfl⟩
 rintro i r h ⟨le,r1,r5,r6,rfl⟩
 rcases Nat.lt_or_eq_of_le le with hlt|heq
 ·have hlt':(i:Int) < s.length:=by omega
  have hw1:IntKind.i64.wrap ((i:Int)+1)=(i:Int)+1:=wrap64 (by omega) (by omega)
  have hy:=Qm (s.take i) 4294967295 (by decide)
  have htk:s.take (i+1)=s.take i ++ [s[i]]:=List.take_succ_eq_append_getElem hlt
  have hcr:crcL 4294967295 (s.take (i+1))=Kj 8 (crcL 4294967295 (s.take i) ^^^ s[i].toNat):=by rw [htk,U2];rfl
  generalize crcL 4294967295 (s.take i)=y at r5 hy hcr
  have hb:s[i].toNat < 256:=s[i].toNat_lt
  have hz1:y ^^^ s[i].toNat < 2 ^ 32:=Nat.xor_lt_two_pow hy (by omega)
  have hc32:IntKind.u32.wrap (s[i].toNat:Int)=s[i].toNat:=wrap32 (by omega) (by omega)
  have x1:intX .xor .u32 (y:Int) (s[i].toNat:Int)=some (.int .u32 ((y ^^^ s[i].toNat:Nat):Int)):=by
   have:=Xa (a:=(y:Int)) (b:=(s[i].toNat:Int)) (by omega) (by omega) (by omega) (by omega)
   simpa using this
  generalize y ^^^ s[i].toNat=z at hz1 x1 hcr
  simp [r1,r5,r6,hlt,hlt',B8,hc32,x1]
  refine Am (RmI s z i Heap.empty) (8 - ·) ?_ 0 ?_
  rotate_left
  ·exact ⟨by omega,by simpa using r1,by simp [Kj],by simpa using r6,by simp,rfl⟩
  clear r1 r5 r6 x1 hc32
  rintro k r h ⟨lk,r1,r5,r6,r7,rfl⟩
  rcases Nat.lt_or_eq_of_le lk with hlk|hek
  ·have hlk':(k:Int) < 8:=by omega
   have hw2:IntKind.i64.wrap ((k:Int)+1)=(k:Int)+1:=wrap64 (by omega) (by omega)
   have hX:=Xb hz1 k
   have hs2:=Kk (Kj k z)
   have hst:Kj (k+1) z=Ge (Kj k z):=rfl
   generalize Kj k z=w at r5 hX hs2 hst
   have hrem:intX .rem .u32 (w:Int) 2=some (.int .u32 ((w:Int) % 2)):=by simp [intX,Int.tmod_eq_emod_of_nonneg]
   have hquo:intX .quo .u32 (w:Int) 2=some (.int .u32 ((w:Int) / 2)):=by
    have:=wrap32 (n:=(w:Int) / 2) (by omega) (by omega)
    simp [intX,Int.tdiv_eq_ediv_of_nonneg,this]
   have hxo:intX .xor .u32 ((w / 2:Nat):Int) 2197175160=some (.int .u32 ((w / 2 ^^^ 2197175160:Nat):Int)):=Xa (by omega) (by omega) (by omega) (by omega)
   simp at hxo
   by_cases hodd:w % 2=1
   ·have h0:(w:Int) % 2=1:=by omega
    simp [r1,r5,r6,r7,hlk',hw2,hrem,hquo,h0,hxo]
    refine ⟨k+1,by omega,by omega,by simpa using r1,?_,by simpa using r6,by simp,rfl⟩
    simp [hst,hs2,hodd]
   ·have h0:¬((w:Int) % 2=1):=by omega
    simp [r1,r5,r6,r7,hlk',hw2,hrem,hquo,h0,hxo]
    refine ⟨k+1,by omega,by omega,by simpa using r1,?_,by simpa using r6,by simp,rfl⟩
    simp [hst,hs2,hodd]
  ·subst hek
   simp [r1,r5,r6,r7,hw1]
   exact ⟨i+1,by omega,by omega,by simpa using r1,by simp [hcr,r5],by simp,rfl⟩
 ·subst heq
  rw [List.take_length] at r5
  have hy:=Qm s 4294967295 (by decide)
  have x1:intX .xor .u32 ((crcL 4294967295 s:Nat):Int) 4294967295=some (.int .u32 ((crcL 4294967295 s ^^^ 4294967295:Nat):Int)):=by
   have:=Xa (a:=((crcL 4294967295 s:Nat):Int)) (b:=4294967295) (by omega) (by omega) (by decide) (by decide)
   simpa using this
  simp [r1,r5,r6,x1]
  rfl
theorem Abv (s:Txt) (hl:s.length < 2 ^ 63) (h:Heap):CSem Tryz.prog 70 [S s] h fun x h'=>x = .int .u32 (crcR s:Nat)∧h'=h:=by
 have:Aq Tryz.prog 70 [S s] (.int .u32 (crcR s:Nat)):=by
  refine Aq.Az (k:=2) ?_
  refine CSem.body hm Tryz.func70 rfl (by kernel_rfl) (by kernel_rfl) (by simp [Tryz.ntmps70]) ?_
  simp [Tryz.f70]
  refine ((A7f s hl).call (k:=1) (by simp)).use ?_
  simp
 exact this.call (k:=1) (by simp)
theorem A7g (s:Txt) (hs:s.length < 2 ^ 63) (h:Heap):CSem Tryz.prog 69 [S s] h fun x h'=>x=Us s∧h'=h:=by
 have:Aq Tryz.prog 69 [S s] (Us s):=by
  refine Aq.Az (k:=2) ?_
  refine CSem.body hm Tryz.func69 rfl (by kernel_rfl) (by kernel_rfl) (by simp [Tryz.ntmps69]) ?_
  simp [Tryz.f69]
  refine (Jt s 2 (by omega) _).use ?_
  unfold Us Gw cutA
  have hb:=Afa s 2
  generalize cutR s 2=w at hb ⊢
  obtain ⟨n,rest,e⟩:=w
  simp only at hb ⊢
  by_cases he:e=0
  rotate_left
  ·simp [he]
  by_cases hn:n≤rest.length
  rotate_left
  ·have hn':(rest.length:Int) < n:=by omega
   simp [he,hn,hn']
  have hn':¬(rest.length:Int) < n:=by omega
  simp [he,hn,hn']
  refine Bh 8 (by kernel_rfl) ?_
  simp [Ct,hb,hn]
 exact this.call (k:=1) (by simp)
theorem tk_len (s:Txt):(opT s).2.1.length≤s.length:=by
 have h1:=J7 s 4
 have h2:=Hc (opRs s 4) 2
 unfold opT Gw
 split
 ·simp;omega
 ·simp
theorem A7h (s:Txt) (hs:s.length < 2 ^ 63):Aq Tryz.prog 31 [S s] (Jh s):=by
 refine Aq.Az (k:=3) ?_
 refine CSem.body hm Tryz.func31 rfl (by kernel_rfl) (by kernel_rfl) (by simp [Tryz.ntmps31]) ?_
 have hb0:Ce Tryz.prog 74 []=some (.agg [.int .i64 0,.int .i64 0,.int .i64 0,.int .i64 0,S []]):=by kernel_rfl
 have hz5:szT Tryz.prog 74=some 5:=by kernel_rfl
 have hagg:aggT Tryz.prog 74=some true:=by kernel_rfl
 simp [Tryz.f31,AV.cells]
 by_cases h26:s.length < 26
 ·have h26':(s.length:Int) < 26:=by omega
  simp [h26,h26',hb0,Ae,hz5,putN,Heap.Aa,Heap.Ad,Ab,takeN,Jh,C5,BlkA,blk0,Ch]
 have h26':¬(s.length:Int) < 26:=by omega
 by_cases hmg:s.take 3=mag
 rotate_left
 ·have hmg':¬s.take 3=[83,80,76]:=hmg
  simp [hmg,hmg',h26,h26',show (3:Int)≤s.length by omega,Ct,hb0,Ae,hz5,putN,Heap.Aa,Heap.Ad,Ab,takeN,Jh,C5,BlkA,blk0,Ch]
 have hmg':s.take 3=[83,80,76]:=hmg
 have h3:(3:Int)≤s.length:=by omega
 have e1:∀ zs,((Heap.empty.alloc [AV.int .i64 0,.int .i64 0,.int .i64 0,.int .i64 0,S []]).alloc zs).get 1=some zs:=fun zs=>Heap.A9 (Heap.empty.alloc _) zs
 simp [hmg',h26',h3,Ct,hb0,AV.cells,Ae,hz5,putN,e1]
 generalize hH:Heap.put _ _ _=H
 have k0:H.get 0=some [.int .i64 0,.int .i64 0,.int .i64 0,.int .i64 0,S []]:=by
  rw [←hH,Heap.Ag (e1 _) (by decide)]
  exact Heap.Af (Heap.A9 Heap.empty _)
 have k1:H.get 1=some [.int .i64 0,.int .i64 0,.int .i64 0,.int .i64 0,S []]:=by rw [←hH];exact Heap.Ac (e1 _)
 clear hH
 refine (Jt (opRs s 0) 4 (by have:=J7 s 0;omega) H).use ?_
 have v0:(cutR (opRs s 0) 4).1=opVl s 0:=rfl
 have w0:(cutR (opRs s 0) 4).2.1=opRs s 1:=rfl
 simp [cutA,v0,w0,A8,k1,Heap.Ah k1]
 generalize hH:Heap.put H _ _=H1
 have k01:H1.get 0=some [.int .i64 0,.int .i64 0,.int .i64 0,.int .i64 0,S []]:=by rw [←hH,Heap.Ag k1 (by decide)];exact k0
 have k11:H1.get 1=some [.int .i64 (opVl s 0),.int .i64 0,.int .i64 0,.int .i64 0,S []]:=by rw [←hH];exact Heap.Ac k1
 clear hH
 refine (Jt (opRs s 1) 2 (by have:=J7 s 1;omega) H1).use ?_
 have v1:(cutR (opRs s 1) 2).1=opVl s 1:=rfl
 have w1:(cutR (opRs s 1) 2).2.1=opRs s 2:=rfl
 simp [cutA,v1,w1,A8,k11,Heap.Ah k11]
 generalize hH:Heap.put H1 _ _=H2
 have k02:H2.get 0=some [.int .i64 0,.int .i64 0,.int .i64 0,.int .i64 0,S []]:=by rw [←hH,Heap.Ag k11 (by decide)];exact k01
 have k12:H2.get 1=some [.int .i64 (opVl s 0),.int .i64 (opVl s 1),.int .i64 0,.int .i64 0,S []]:=by rw [←hH];exact Heap.Ac k11
 clear hH
 refine (Jt (opRs s 2) 4 (by have:=J7 s 2;omega) H2).use ?_
 have v2:(cutR (opRs s 2) 4).1=opVl s 2:=rfl
 have w2:(cutR (opRs s 2) 4).2.1=opRs s 3:=rfl
 simp [cutA,v2,w2,A8,k12,Heap.Ah k12]
 generalize hH:Heap.put H2 _ _=H3
 have k03:H3.get 0=some [.int .i64 0,.int .i64 0,.int .i64 0,.int .i64 0,S []]:=by rw [←hH,Heap.Ag k12 (by decide)];exact k02
 have k13:H3.get 1=some [.int .i64 (opVl s 0),.int .i64 (opVl s 1),.int .i64 (opVl s 2),.int .i64 0,S []]:=by rw [←hH];exact Heap.Ac k12
 clear hH
 refine (Jt (opRs s 3) 7 (by have:=J7 s 3;omega) H3).use ?_
 have v3:(cutR (opRs s 3) 7).1=opVl s 3:=rfl
 have w3:(cutR (opRs s 3) 7).2.1=opRs s 4:=rfl
 simp [cutA,v3,w3,A8,k13,Heap.Ah k13]
 generalize hH:Heap.put H3 _ _=H4
 have k04:H4.get 0=some [.int .i64 0,.int .i64 0,.int .i64 0,.int .i64 0,S []]:=by rw [←hH,Heap.Ag k13 (by decide)];exact k03
 have k14:H4.get 1=some [.int .i64 (opVl s 0),.int .i64 (opVl s 1),.int .i64 (opVl s 2),.int .i64 (opVl s 3),S []]:=by rw [←hH];exact Heap.Ac k13
 clear hH
 refine (A7g (opRs s 4) (by have:=J7 s 4;omega) H4).use ?_
 have hop:C5 s=if ¬(opT s).2.2=0∨(opT s).2.1.length < 4 then (blk0,4) else if 4 < (opT s).2.1.length then (blk0,5) else if ¬(cutR (opT s).2.1 4).1=crcR (s.take (s.length - 4)) then (blk0,6) else (⟨opVl s 0,opVl s 1,opVl s 2,opVl s 3,(opT s).1⟩,0):=by
  unfold C5
  rw [if_neg h26,if_neg (fun h=>h hmg)]
 have hT:Gw (opRs s 4)=opT s:=rfl
 have hTl:=tk_len s
 unfold Jh
 rw [hop]
 unfold Us
 rw [hT]
 generalize opT s=w at hTl ⊢
 obtain ⟨tx,rs,e⟩:=w
 simp only at hTl ⊢
 simp [A8,k14,Heap.Ah k14]
 generalize hH:Heap.put H4 _ _=H5
 have k05:H5.get 0=some [.int .i64 0,.int .i64 0,.int .i64 0,.int .i64 0,S []]:=by rw [←hH,Heap.Ag k14 (by decide)];exact k04
 have k15:H5.get 1=some [.int .i64 (opVl s 0),.int .i64 (opVl s 1),.int .i64 (opVl s 2),.int .i64 (opVl s 3),S tx]:=by rw [←hH];exact Heap.Ac k14
 clear hH
 have l0:=Heap.Ah k05
 have fin:∀ cs:List AV,(H5.put 0 cs).get 0=some cs:=fun cs=>Heap.Ac k05
 by_cases he:e=0
 rotate_left
 ·simp [he,hb0,Ae,hz5,putN,k05,l0,fin,Ab,takeN,BlkA,blk0,Ch]
 by_cases hr4:rs.length < 4
 ·have hr4':(rs.length:Int) < 4:=by omega
  simp [he,hr4,hr4',hb0,Ae,hz5,putN,k05,l0,fin,Ab,takeN,BlkA,blk0,Ch]
 have hr4':¬(rs.length:Int) < 4:=by omega
 by_cases hr5:4 < rs.length
 ·have hr5':(4:Int) < rs.length:=by omega
  simp [he,hr4,hr4',hr5,hr5',hb0,Ae,hz5,putN,k05,l0,fin,Ab,takeN,BlkA,blk0,Ch]
 have hr5':¬(4:Int) < rs.length:=by omega
 simp [he,hr4,hr4',hr5,hr5']
 refine (Jt rs 4 (by omega) H5).use ?_
 have hcr:=Vm (s.take (s.length - 4))
 have hcw:IntKind.i64.wrap (crcR (s.take (s.length - 4)):Int)=crcR (s.take (s.length - 4)):=wrap64 (by omega) (by omega)
 have hw4:IntKind.i64.wrap ((s.length:Int) - 4)=(s.length:Int) - 4:=wrap64 (by omega) (by omega)
 have hl4:(s.length:Int) - 4≤s.length:=by omega
 have hl0:(0:Int)≤(s.length:Int) - 4:=by omega
 have ht4:((s.length:Int) - 4).toNat=s.length - 4:=by omega
 simp [cutA,hw4,Ct,hl4,hl0,ht4]
 refine ⟨by omega,?_⟩
 refine (Abv (s.take (s.length - 4)) (by simp;omega) H5).use ?_
 by_cases hsum:(cutR rs 4).1=crcR (s.take (s.length - 4))
 ·simp [hcw,hsum,k15,Ab,hagg,takeN,Ae,hz5,putN,k05,l0,fin,BlkA,Ch]
 ·simp [hcw,hsum,hb0,Ae,hz5,putN,k05,l0,fin,Ab,takeN,BlkA,blk0,Ch]
theorem A7j (s:Txt) (hs:s.length < 2 ^ 63) (h:Heap):CSem Tryz.prog 31 [S s] h fun x h'=>x=Jh s∧h'=h:=(A7h s hs).call (k:=3) (by simp)
end Go.Proofs.YtpabfpccpbakfaaGreatDoor.X
