/-
  Contracts: law16.damage.
-/
import Derived.Test.YtjcnihmbpakipaaGreatDoorV70
namespace Go.Proofs.YtjcnihmbpakipaaGreatDoor.X
open Go.RowKit F
set_option maxRecDepth 100000
set_option linter.unusedSimpArgs false
set_option linter.unusedVariables false
section
variable {p q nb:Nat} {cells:List AV} {ps:List Nat} {pv pm bl bb:Nat} {c:Cfg} {k:Nat} {a:Arr} {sq:Int} {L:List Txt} {bd:List Bool} {E:Nat→Prop} {hp:Heap}
theorem LawE.damage (H:LawE p q nb cells ps pv pm bl bb c k a sq L bd E hp) (hC:ConfP c) (hk:k < 2 ^ 27) (hbl:(bd.length:Int)=c.k+c.m) (o:OpD) (ho:o.o=1∨o.o=3) (hs:o.s.length < 2 ^ 46) :
  CSem Tryz.prog 26 [.ptr p 0,.ptr pm 0,.agg (OpC o)] hp fun x h'=>x = .bool (dmgR c a bd o).1∧LawE p q nb cells ps pv pm bl bb c k (dmgR c a bd o).2.1 sq L (dmgR c a bd o).2.2 E h'∧Fr E hp h':=by
 refine CSem.body hm Tryz.func26 rfl (by kernel_rfl) (by kernel_rfl) (by simp [Tryz.ntmps26]) ?_
 have hagg:aggT Tryz.prog 107=some true:=by kernel_rfl
 have hz5:szT Tryz.prog 107=some 5:=by kernel_rfl
 have h0:=conf_sl hC
 have hlt255:bd.length < 2 ^ 40:=by omega
 have hat:∀ x∈OpC o,x.atom=true:=fun x hx=>List.all_eq_true.1 (show (OpC o).all AV.atom=true from rfl) x hx
 refine wpc_st (fun r h=>rg r 0 = .ptr p 0∧rg r 1 = .ptr pm 0∧rg r 5 = .ptr hp.next 0∧h=hp.alloc (OpC o)) ?_ (by simp [AV.cells,OpC])
 rintro r _ ⟨r0,r1,r5,rfl⟩
 have H1:=H.alloc (OpC o)
 have go:(hp.alloc (OpC o)).get hp.next=some [.int .i64 o.o,.int .i64 o.d,.int .i64 o.n,S o.s]:=Heap.get_alloc_same _ _
 have F1:Fr E hp (hp.alloc (OpC o)):=fun x hx=>by
  have:x < hp.next:=H.at_.lt (.inr hx)
  rw [Heap.get_alloc,if_neg (by omega)]
 generalize hp.alloc (OpC o)=H1h at H1 go F1 ⊢
 generalize hp.next=bo at r5 H1 go
 have gm:=H1.md.gm
 simp only [mdC] at gm
 have gb:=H1.md.gb
 have bad:dmgR c a bd o=(false,a,bd)→LawE p q nb cells ps pv pm bl bb c k (dmgR c a bd o).2.1 sq L (dmgR c a bd o).2.2 E H1h:=fun e=>by rw [e];exact H1.less fun x hx=> .inl hx
 have hzB:zeroAV Tryz.prog 107=some (.agg [.int .i64 0,.int .i64 0,.int .i64 0,.int .i64 0,S []]):=by kernel_rfl
 rw [wpc_seq,wpc_seq]
 refine wpc_cut (fun r h=>rg r 0 = .ptr p 0∧rg r 1 = .ptr pm 0∧rg r 5 = .ptr bo 0∧rg r 42 = .bool (decide (o.d < 0∨(bd.length:Int)≤o.d∨(bd[o.d.toNat]?.getD false=false∧c.m≤bads bd)))∧H1h=h) ?_ ?_
 ·refine wpc_draw 33 (by kernel_rfl) ?_
  by_cases d0:o.d < 0
  ·simp [r0,r1,r5,fieldAddrX,go,d0]
  by_cases d1:(bd.length:Int)≤o.d
  ·simp [r0,r1,r5,fieldAddrX,go,gm,d0,d1]
  obtain ⟨d,hd⟩:=Int.eq_ofNat_of_zero_le (show 0≤o.d by omega)
  rw [hd] at go d0 d1 ⊢
  have hdl:d < bd.length:=by omega
  by_cases hb:bd[d]=true
  ·simp [r0,r1,r5,fieldAddrX,go,gm,gb,d0,d1,hdl,hb]
  ·have hb':bd[d]=false:=by simpa using hb
   simp [r0,r1,r5,fieldAddrX,go,gm,gb,d0,d1,hdl,hb']
   refine QCall.use (x:= .int .i64 (bads bd:Nat)) (bads_sem H1.md hlt255) ?_
   simp [r0,r1,r5,fieldAddrX,gm]
 clear r0 r1 r5
 rintro r _ ⟨r0,r1,r5,r42,rfl⟩
 by_cases hcnd:o.d < 0∨(bd.length:Int)≤o.d∨(bd[o.d.toNat]?.getD false=false∧c.m≤bads bd)
 ·have e:dmgR c a bd o=(false,a,bd):=by unfold dmgR;rw [if_pos hcnd]
  rw [decide_eq_true hcnd] at r42
  have hb:=bad e
  rw [e] at hb ⊢
  simp [r42]
  exact ⟨hb,F1⟩
 rw [decide_eq_false hcnd] at r42
 obtain ⟨d,hd⟩:=Int.eq_ofNat_of_zero_le (show 0≤o.d by omega)
 have hdl:d < bd.length:=by omega
 simp [r42,r5,fieldAddrX,go]
 refine (ropen_call o.s hs H1h).use ?_
 have ea:∀ zs,(H1h.alloc zs).get H1h.next=some zs:=fun zs=>Heap.get_alloc_same H1h zs
 simp [openA,BlkA,hzB,AV.cells,storeX_agg,hz5,putN,ea]
 generalize hH:Heap.put (Heap.alloc H1h _) _ _=H2
 obtain ⟨HL,go2,F2⟩:LawE p q nb cells ps pv pm bl bb c k a sq L bd (fun x=>E x∨x=bo) H2∧H2.get bo=some [.int .i64 o.o,.int .i64 o.d,.int .i64 o.n,S o.s]∧Fr E hp H2:=by
  have hbo:=Heap.get_lt go
  subst hH
  refine ⟨((H1.alloc _).put (.inr rfl) _ (ea _)).less fun x hx=> .inl hx,?_,fun x hx=> ?_⟩
  ·rw [Heap.get_put_other (ea _) (by omega)]
   exact Heap.get_alloc_old go
  ·have hx2:x < H1h.next:=H1.at_.lt (.inr (.inl hx))
   rw [Heap.get_put_other (ea _) (by omega),Heap.get_alloc,if_neg (by omega)]
   exact F1 x hx
 clear hH
 have fin:∀ (a':Arr) (H3:Heap),LawE p q nb cells ps pv pm bl bb c k a' sq L bd (fun x=>E x∨x=bo) H3→H3.get bo=some [.int .i64 o.o,.int .i64 o.d,.int .i64 o.n,S o.s]→Fr E hp H3→dmgR c a bd o=(true,a',bd.set d true) →
   LawE p q nb cells ps pv pm bl bb c k (dmgR c a bd o).2.1 sq L (dmgR c a bd o).2.2 E (H3.put bb ((bd.map AV.bool).set d (.bool true)))∧Fr E hp (H3.put bb ((bd.map AV.bool).set d (.bool true))):=fun a' H3 h1 h2 h3 e=>by
  obtain ⟨n1,n2⟩:=h1.note d true
  rw [e]
  exact ⟨n1.less fun x hx=> .inl hx,h3.trans fun x hx=>n2 x (.inl hx)⟩
 rcases ho with ho|ho
 ·have e:dmgR c a bd o=(true,(a.fail o.d).1,bd.set d true):=by
   unfold dmgR
   rw [if_neg hcnd,if_neg (by rw [ho];exact fun h=>absurd h.1 (by decide)),if_neg (by rw [ho];decide),if_pos ho,hd]
   rfl
  rw [ho] at go2
  simp [r5,go2,fieldAddrX,r0]
  refine (HL.fail o.d).then ?_
  rintro _ H3 ⟨rfl,HL3,F3⟩
  have go3:=(F3 bo (.inr rfl)).trans go2
  have gm3:=HL3.md.gm
  simp only [mdC] at gm3
  have gb3:=HL3.md.gb
  have hbl3:=Heap.get_lt gb3
  have ff:=fin _ H3 HL3 (by rw [ho];exact go3) (F2.trans fun x hx=>F3 x (.inl hx)) e
  simp
  refine wpc_draw 7 (by kernel_rfl) ?_
  rw [hd] at go3
  simp [r1,r5,fieldAddrX,gm3,go3,gb3,hdl,hbl3]
  rw [e] at ff ⊢
  exact ⟨rfl,ff⟩
 ·rw [ho] at go2
  by_cases he:(openR o.s).2=0
  ·have e:dmgR c a bd o=(false,a,bd):=by unfold dmgR;rw [if_neg hcnd,if_pos ⟨ho,.inl he⟩]
   simp [r5,go2,fieldAddrX,r0,he]
   rw [e]
   exact ⟨rfl,HL.less fun x hx=> .inl hx,F2⟩
  simp [r5,go2,fieldAddrX,r0,he]
  refine (HL.corr hk o.d o.n o.s).then ?_
  rintro _ H3 ⟨rfl,HL3,F3⟩
  by_cases hce:(a.corrupt o.d o.n o.s).2=0
  rotate_left
  ·have e:dmgR c a bd o=(false,a,bd):=by unfold dmgR;rw [if_neg hcnd,if_pos ⟨ho,.inr hce⟩]
   rw [corrupt_err hce] at HL3
   simp [hce]
   rw [e]
   exact ⟨rfl,HL3.less fun x hx=> .inl hx,F2.trans fun x hx=>F3 x (.inl hx)⟩
  have e:dmgR c a bd o=(true,(a.corrupt o.d o.n o.s).1,bd.set d true):=by
   unfold dmgR
   rw [if_neg hcnd,if_neg (fun h=>h.2.elim he fun h=>h hce),if_pos ho,hd]
   rfl
  have go3:=(F3 bo (.inr rfl)).trans go2
  have gm3:=HL3.md.gm
  simp only [mdC] at gm3
  have gb3:=HL3.md.gb
  have hbl3:=Heap.get_lt gb3
  have ff:=fin _ H3 HL3 (by rw [ho];exact go3) (F2.trans fun x hx=>F3 x (.inl hx)) e
  simp [hce,r5,go3,fieldAddrX]
  refine wpc_draw 7 (by kernel_rfl) ?_
  rw [hd] at go3
  simp [r1,r5,fieldAddrX,gm3,go3,gb3,hdl,hbl3]
  rw [e] at ff ⊢
  exact ⟨rfl,ff⟩
end
end Go.Proofs.YtjcnihmbpakipaaGreatDoor.X
