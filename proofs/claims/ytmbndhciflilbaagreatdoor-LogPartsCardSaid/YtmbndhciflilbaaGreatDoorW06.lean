/-
  LogFull.
-/
import Derived.Test.YtmbndhciflilbaaGreatDoorW04
namespace Go.Proofs.YtmbndhciflilbaaGreatDoor.X
open Go.RowKit F
set_option maxRecDepth 100000
set_option linter.unusedSimpArgs false
set_option linter.unusedVariables false
section
variable {p q nb:Nat} {cells:List AV} {ps:List Nat} {pv lb wb f count:Nat} {c:Cfg} {a:Arr} {sq:Int} {E:Nat→Prop} {hp h':Heap} {L:List Txt} {T:Txt} {z:Nat}
theorem LgS.alloc (S':LgS p q nb cells ps pv lb wb f count c z a sq L T E hp) (zs:List AV):LgS p q nb cells ps pv lb wb f count c z a sq L T E (hp.alloc zs):=by
 have k:∀ x,x < hp.next→(hp.alloc zs).get x=hp.get x:=fun x hx=>by rw [Heap.get_alloc,if_neg (Nat.ne_of_lt hx)]
 have hE:∀ x,E x→x < hp.next:=fun x hx=>by
  obtain ⟨F',A,hF⟩:=S'.H.at_
  exact (hF x (.inr hx)).2
 refine ⟨S'.H.frame (Nat.le_succ _) rfl (fun b hb _=>k b hb) (fun x hx=>⟨.inl hx,Nat.lt_succ_of_lt (hE x hx)⟩),S'.G,S'.A.keep (k lb (hE lb S'.h1)) (k wb (hE wb S'.h2)),S'.le,S'.lf,S'.h1,S'.h2,S'.hC,S'.hz,S'.h6⟩
end
theorem logFull_pure (c:Cfg) (s:Txt) (n:Int) (_:CfW c) (hs:s.length < 2 ^ 63) (_:(Lit.int .i64 n).wf=true):CPure Tryz.prog 6 [CfA c,S s,.int .i64 n] (.bool true):=by
 refine CPure.of_sem (k:=1) ?_
 refine CSem.body hm Tryz.func6 rfl (by kernel_rfl) (by kernel_rfl) (by simp [Tryz.ntmps6]) ?_
 have haggC:aggT Tryz.prog 23=some true:=by kernel_rfl
 have hzC:szT Tryz.prog 23=some 5:=by kernel_rfl
 have hbeq:∀ x y:Bool,binX Tryz.prog .eql 4 (.bool x) (.bool y)=some (.bool (x == y)):=fun x y=>by cases x<;>cases y<;>kernel_rfl
 have hcC:(CfA c).cells=[.int .i64 c.k,.int .i64 c.m,.int .i64 c.sh,.int .i64 c.st,.int .i64 c.sl]:=rfl
 have hout:∀ (h:Heap) (K:AV→Heap→Prop),K (.bool true) h→Call Tryz.prog 10 [] h K:=out22
 refine wpc_st (fun r h=>rg r 1=S s∧rg r 2 = .int .i64 n∧rg r 3 = .ptr 0 0∧h=Heap.empty.alloc [.int .i64 c.k,.int .i64 c.m,.int .i64 c.sh,.int .i64 c.st,.int .i64 c.sl]) ?_ (by simp [hcC])
 rintro r _ ⟨r1,r2,r3,rfl⟩
 have g1:(Heap.empty.alloc [.int .i64 c.k,.int .i64 c.m,.int .i64 c.sh,.int .i64 c.st,.int .i64 c.sl]).get 0=some [.int .i64 c.k,.int .i64 c.m,.int .i64 c.sh,.int .i64 c.st,.int .i64 c.sl]:=Heap.get_alloc_same Heap.empty _
 have lp1:(Heap.empty.alloc [.int .i64 c.k,.int .i64 c.m,.int .i64 c.sh,.int .i64 c.st,.int .i64 c.sl]).lp=none:=rfl
 generalize (Heap.empty.alloc [.int .i64 c.k,.int .i64 c.m,.int .i64 c.sh,.int .i64 c.st,.int .i64 c.sl])=H1 at g1 lp1 ⊢
 have hbl:=Heap.get_lt g1
 simp [r3,g1,loadX_agg haggC,hzC,takeN]
 refine (rtiny_call c _).use ?_
 by_cases hT:SmL c
 rotate_left
 ·simp [hT]
  refine hout _ _ ?_
  simp
 by_cases hn0:n < 0
 ·simp [hT,r2,hn0]
  refine hout _ _ ?_
  simp
 by_cases hn5:5000 < n
 ·simp [hT,r2,hn0,hn5]
  refine hout _ _ ?_
  simp
 simp [hT,r2,r3,g1,hn0,hn5,loadX_agg haggC,hzC,takeN]
 obtain ⟨hC,t1,t2,t3,t4⟩:=hT
 have h0:=conf_sl hC
 have hcap:=cap_eq hC
 have hsz:8≤c.k * c.sh:=by
  have hkk:=hC.2.2.1
  have:1 * 8≤c.k * c.sh:=Int.mul_le_mul (by omega) (by omega) (by omega) (by omega)
  omega
 obtain ⟨z,hz⟩:=Int.eq_ofNat_of_zero_le (show 0≤confCap c by omega)
 have hz:(z:Int)=confCap c:=hz.symm
 obtain ⟨n1,hn1⟩:=Int.eq_ofNat_of_zero_le (show 0≤c.st by omega)
 have hn1:c.st=(n1:Int):=hn1
 obtain ⟨m,hm⟩:=Int.eq_ofNat_of_zero_le (show 0≤n by omega)
 have hm:n=(m:Int):=hm
 subst hm
 refine (made22_sem hC ⟨t1,t3⟩ _ lp1).then ?_
 rintro _ H2 ⟨p,q,nb,cells,ps,pv,rfl,LH,F2⟩
 have LH:LawV p q nb cells ps pv c 0 (madeL c [] 0).1 (madeL c [] 0).2 (fun x=>x=0) H2:=LH.less fun x hx=>by rw [hx];exact hbl
 have g2:=(F2 0 hbl).trans g1
 obtain ⟨W,s0,s1⟩:=made_ok hC [] 0 (by omega)
 generalize madeL c [] 0=aq at LH W s0 s1
 obtain ⟨a0,sq⟩:=aq
 simp only at LH W s0 s1
 have hM:madeM c [] 0=List.replicate c.st.toNat []:=rfl
 rw [hM] at W
 have hem:∀ i,i < c.st.toNat→(List.replicate c.st.toNat ([]:Txt))[i]? = some []:=fun i hi=>by rw [List.getElem?_replicate,if_pos hi]
 simp [r3,fieldAddrX,g2]
 rw [hn1]
 refine (LgS.new (z:=z) (f:=0) (count:=n1) LH hC hz t3 W (by rw [List.length_replicate];omega) s0 (by omega) (by omega) (fun i hi=>hem _ (by omega))).then ?_
 rintro _ H3 ⟨lk,wk,rfl,S3,F3,hne3⟩
 by_cases hs5:(5000:Int) < s.length
 ·simp [r1,hs5]
  refine hout _ _ ?_
  simp
 simp [r1,hs5]
 refine (S3.append_if (s:=s) (by omega) (by omega)).then ?_
 rintro _ H5 ⟨rfl,a5,sq5,L5,S5,F5,O5,q5⟩
 generalize (if s.length≤n1 * z - ([]:Txt).length then [] ++ s else [])=T at S5
 simp
 refine S5.room.use ?_
 simp
 refine S5.text.use ?_
 have hle:=S5.le
 obtain ⟨_,_,_,hcz,_⟩:=S5.sizes
 have hpos:(m:Int)≤140737488355328:=by omega
 have S6:=S5.alloc (List.replicate m (AV.int .u8 0))
 have hg6:(H5.alloc (List.replicate m (AV.int .u8 0))).get H5.next=some (List.replicate m (AV.int .u8 0)):=Heap.get_alloc_same _ _
 have htk:takeN (List.replicate m (AV.int .u8 0)) 0 m=some (List.replicate m (AV.int .u8 0)):=by simp
 have hby:bytesOfX (List.replicate m (AV.int .u8 0))=some (List.replicate m 0):=by
  have:=bytesOfX_map (List.replicate m 0)
  rw [List.map_replicate] at this
  exact this
 simp [r2,hpos]
 generalize H5.alloc (List.replicate m (AV.int .u8 0))=H6 at S6 hg6 ⊢
 simp [hg6,htk,hby]
 refine (S6.append_if (s:=List.replicate m 0) (by omega) (by rw [List.length_replicate];omega)).then ?_
 rintro _ H7 ⟨rfl,a7,sq7,L7,S7,F7,O7,q7⟩
 by_cases hfit:m≤n1 * z - T.length
 ·have hfit':(m:Int)≤((n1 * z - T.length:Nat):Int):=by omega
  simp only [List.length_replicate,if_pos hfit] at S7
  have hw:IntKind.i64.wrap (((n1 * z - T.length:Nat):Int) - m)=((n1 * z - (T ++ List.replicate m 0).length:Nat):Int):=by
   rw [wrap64 (by omega) (by omega),List.length_append,List.length_replicate]
   omega
  simp [hfit,hfit',r2]
  refine S7.room.use ?_
  simp [hw,r2]
  refine hout _ _ ?_
  simp
 ·have hfit':((n1 * z - T.length:Nat):Int) < m:=by omega
  simp only [List.length_replicate,if_neg hfit] at S7
  simp [hfit,hfit',r2]
  refine S7.text.use ?_
  simp
  refine S7.room.use ?_
  simp
  refine hout _ _ ?_
  simp
end Go.Proofs.YtmbndhciflilbaaGreatDoor.X
