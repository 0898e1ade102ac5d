/-
  VolumeCrash: its beginning.
-/
import Derived.Test.YtjcnihmbpakipaaGreatDoorV73
namespace Go.Proofs.YtjcnihmbpakipaaGreatDoor.X
open Go.RowKit F
set_option maxRecDepth 100000
set_option linter.unusedSimpArgs false
set_option linter.unusedVariables false
theorem countP_one {p q:Nat→Bool} {d:Nat} (h:∀ e,e≠d→p e=true→q e=true):∀ n,(List.range n).countP p≤(List.range n).countP q+(if d < n then 1 else 0)
 | 0=>by simp
 | n+1=>by
  have ih:=countP_one h n
  rw [List.range_succ,List.countP_append,List.countP_append,List.countP_cons,List.countP_cons,List.countP_nil,List.countP_nil]
  by_cases hd:n=d
  ·subst hd
   simp only [Nat.lt_irrefl,if_false] at ih
   rw [if_pos (Nat.lt_succ_self n)]
   split<;>split<;>omega
  ·have h1:=h n hd
   have h2:(if d < n+1 then 1 else 0)=(if d < n then 1 else 0):=by
    by_cases hlt:d < n
    ·rw [if_pos hlt,if_pos (by omega)]
    ·rw [if_neg hlt,if_neg (by omega)]
   rw [h2]
   by_cases hp:p n=true
   ·rw [if_pos hp,if_pos (h1 hp)];omega
   ·rw [if_neg hp];split<;>omega
theorem fail_cnt {c:Cfg} {a:Arr} {sq:Int} {L:List Txt} {bad:Nat→Prop} (V:VS c a sq L bad) (d:Int):(aliveL a a.disks.length).length≤(aliveL (a.fail d).1 (a.fail d).1.disks.length).length+1:=by
 by_cases h:0≤d∧d < (a.disks.length:Int)
 ·obtain ⟨⟨g,I,_⟩,_⟩:=V
  obtain ⟨k,rfl⟩:=Int.eq_ofNat_of_zero_le h.1
  obtain ⟨_,D⟩:=I.fail (bad':=bad) (fun _ h=>h) (d:=k) (by omega)
  rw [aliveL_cnt,aliveL_cnt,D.len]
  have:=countP_one (p:=fun e:Nat=>a.alive (e:Int)) (q:=fun e:Nat=>(a.fail (k:Int)).1.alive (e:Int)) (d:=k) (fun e he hp=>by simp only [D.al,if_neg he];exact hp) a.disks.length
  split at this<;>omega
 ·rw [fail_no h];omega
theorem VS.fuse {c:Cfg} {a:Arr} {sq:Int} {L:List Txt} {bad:Nat→Prop} (V:VS c a sq L bad) (n:Int):VS c (a.fuse n) sq L bad∧Stp a (a.fuse n)∨¬n < 0∧VS c (a.fuse n) sq L bad∧(a.fuse n).disks.length=a.disks.length∧∀ d:Nat,(a.fuse n).alive (d:Int)=a.alive (d:Int):=by
 obtain ⟨⟨g,I,e,hL⟩,hdn,hq,hll⟩:=V
 have ef:(a.fuse n).disks=a.disks:=by unfold Arr.fuse;split<;>rfl
 have V1:VS c (a.fuse n) sq L bad:=⟨⟨g,I.fuse n,e,hL⟩,by unfold Arr.fuse;split<;>exact hdn,fun y hy=>hq y (by rw [ef] at hy;exact hy),hll⟩
 by_cases hn:n < 0
 ·have e1:a.fuse n=a:=by unfold Arr.fuse;rw [if_pos hn]
  exact .inl ⟨V1,by rw [e1];exact Stp.refl a⟩
 ·exact .inr ⟨hn,V1,by rw [ef],fun d=>by unfold Arr.alive Arr.on?;rw [ef]⟩
theorem VS.gdF {c:Cfg} {a:Arr} {sq:Int} {L:List Txt} (V:VS c a sq L (fun _=>False)) (h:c.k≤((aliveL a a.disks.length).length:Int)):Gd c a (fun _=>False) :=
 ⟨fun d=>a.alive (d:Int),fun d _ h=>⟨h,fun h=>h⟩,by rw [←aliveL_cnt];exact h⟩
section
variable {p q nb:Nat} {cells:List AV} {ps:List Nat} {pv pm bl bb:Nat} {c:Cfg} {k:Nat} {a:Arr} {sq:Int} {L:List Txt} {bd:List Bool} {E:Nat→Prop} {hp:Heap} {bad:Nat→Prop} {R:Nat→Prop}
theorem lawE_start {h:Heap} (hC:ConfP c) (hs:c.k+c.m≤7) (hE:∀ x,E x→x < h.next) (hlp:h.lp=none) :
  CSem Tryz.prog 12 [CfA c] h fun x h'=> ∃ p,x = .ptr p 0∧Ext h h'∧h'.lp=none∧∃ q nb cells ps,At (ArrI p q nb cells ps (freshA c)) E h':=by
 refine (fresh_sem hC h).mono ?_
 rintro _ H2 ⟨p,rfl,A2,E2⟩
 have e0:freshR c=freshA c:=rfl
 rw [e0] at A2
 obtain ⟨q,nb,cells,ps,A2⟩:=A2.arrI (freshA_Q hC hs).b.one
 exact ⟨p,rfl,E2,E2.lp.trans hlp,q,nb,cells,ps,A2.mono fun x hx=>hE x hx⟩
theorem lawE_make {h:Heap} (hC:ConfP c) (hs:c.k+c.m≤7∧c.st≤6) (hlp:h.lp=none) (A:At (ArrI p q nb cells ps (freshA c)) E h) :
  CSem Tryz.prog 13 [.ptr p 0,CfA c,.int .i64 7] h fun x h'=> ∃ pv,x = .tup [.ptr pv 0,.int .i64 0]∧Keep E h h'∧h'.lp=none∧h'.get pv=some (volC p c 7 0)∧h.next≤pv ∧
   At (ArrI p q nb cells ps (vmakeR (freshA c) c 7).ar) (fun x=>E x∨x=pv) h'∧ArrQ 0 (vmakeR (freshA c) c 7).ar:=by
 obtain ⟨m1,m2,V,lf,hl,hal⟩:=VS.make hC
 have Q0:=freshA_Q hC hs.1
 have Q1:=vmake_Q Q0 7 c
 refine (vmake_sem (id:=7) (c:=c) Q0 (by decide) A hlp).mono ?_
 rintro x3 H3 ⟨K3,_,_,hs3⟩
 obtain ⟨pv,rfl,hpv,gv3,A3⟩:=hs3 c 0 m1
 have er:(vmakeR (freshA c) c 7).er=0:=m2
 exact ⟨pv,by rw [er],K3,K3.lp.trans hlp,gv3,hpv,A3,Q1.qt V.qt⟩
theorem lawE_model {h:Heap} (hC:ConfP c) (hlp:h.lp=none) (gv:h.get pv=some (volC p c 7 sq)) (hE:∀ x,E x→x≠pv) (A:At (ArrI p q nb cells ps a) (fun x=>E x∨x=pv) h) (Q:ArrQ k a) (hl:(a.disks.length:Int)=c.k+c.m) :
  CSem Tryz.prog 18 [CfA c] h fun x h'=>Ext h h'∧∃ pm bl bb,x = .ptr pm 0∧LawE p q nb cells ps pv pm bl bb c k a sq (List.replicate c.st.toNat []) (List.replicate (c.k+c.m).toNat false) E h':=by
 refine (mnew_sem hC h).mono ?_
 rintro x h' ⟨Ex,pm,bl,bb,rfl,h1,h2,h3,M⟩
 have hv:=Heap.get_lt gv
 obtain ⟨F,f1,f2⟩:=A
 have hF:∀ x,F x→x < h.next:=fun x hx=>(ArrI.loc p q nb cells ps a).live h F x f1 hx
 have en:=Ex.next
 refine ⟨Ex,pm,bl,bb,rfl,Ex.got gv,M,⟨F,(ArrI.loc p q nb cells ps a).keep h h' F f1 (fun x hx=>Ex.get x (hF x hx)),fun x hx=> ?_⟩,Ex.lp.trans hlp,Q,hl,⟨by omega,by omega,by omega⟩,fun x hx=> ?_⟩
 ·rcases hx with (rfl|rfl|rfl|rfl)|hx
  ·exact ⟨(f2 _ (.inr rfl)).1,by omega⟩
  ·exact ⟨fun hf=>by have:=hF _ hf;omega,Heap.get_lt M.gm⟩
  ·exact ⟨fun hf=>by have:=hF _ hf;omega,Heap.get_lt M.gl⟩
  ·exact ⟨fun hf=>by have:=hF _ hf;omega,Heap.get_lt M.gb⟩
  ·exact ⟨(f2 x (.inl hx)).1,by have:=(f2 x (.inl hx)).2;omega⟩
 ·have:=(f2 x (.inl hx)).2
  exact ⟨hE x hx,by omega,by omega,by omega⟩
theorem LawE.setL (H:LawE p q nb cells ps pv pm bl bb c k a sq L bd E hp) (n:Nat) (t:Txt):LawE p q nb cells ps pv pm bl bb c k a sq (L.set n t) bd E (hp.put bl ((L.map S).set n (S t)))∧Fr E hp (hp.put bl ((L.map S).set n (S t))):=by
 have gl:=H.md.gl
 have e:(L.map S).set n (S t)=(L.set n t).map S:=by rw [List.map_set]
 rw [e]
 refine ⟨⟨by rw [Heap.get_put_other gl H.n2.2.1];exact H.gv,⟨?_,Heap.get_put_same gl,?_,H.md.n1,H.md.n2,H.md.n3⟩,H.at_.put (ArrI.loc p q nb cells ps a) _ (.inl (.inr (.inr (.inl rfl)))),H.lp,H.q,H.len,H.n2,H.ne⟩,fun x hx=>Heap.get_put_other gl (H.ne x hx).2.2.1⟩
 ·rw [Heap.get_put_other gl H.md.n1,H.md.gm];simp
 ·rw [Heap.get_put_other gl (Ne.symm H.md.n3)];exact H.md.gb
end
def zCf:List AV:=[.int .i64 0,.int .i64 0,.int .i64 0,.int .i64 0,.int .i64 0]
def CsC (c:Cfg) (ws:List OpD) (fs:List Int) (x:CrD):List AV:=[.int .i64 c.k,.int .i64 c.m,.int .i64 c.sh,.int .i64 c.st,.int .i64 c.sl,TR OpC ws,IL fs,.int .i64 x.f,OL x.kp,.int .i64 x.ag,OL x.mo]
def CpH (H:Heap) (c:Cfg) (x:CrD) (d8 d9 d10 d13:Bool) (v3 v6:AV) (h:Heap):Prop :=
 Ext H h∧(d8=true→∃ b zs,v3 = .ptr b 0∧H.next≤b∧h.get b=some zs∧zs.length=5∧(d10=true→zs=CfC c))∧(d9=true→∃ b zs,v6 = .ptr b 0∧H.next≤b∧h.get b=some zs∧zs.length=4∧(d13=true→zs=CrC x))
def CsV (c:Cfg) (ws:List OpD) (fs:List Int) (x:CrD):Nat→AV→Prop
 | 0,v=>v = .ptr 0 0
 | 1,v=>v=CfA c
 | 2,v=>v = .ptr 0 5
 | 3,v=>v=TR OpC ws
 | 4,v=>v = .ptr 0 6
 | 5,v=>v=IL fs
 | 6,v=>v = .ptr 0 7
 | 7,v=>v = .agg (CrC x)
 | 11,v=>v=TR OpC ws
 | 12,v=>v=IL fs
 | _,v=>True
theorem cs1 {cd:Code} (hc:(Tryz.f8.body).bind (findR 1)=some cd) {r:Regs} {H:Heap} {Q:Out→Regs→Heap→Prop} {c:Cfg} {ws:List OpD} {fs:List Int} {x:CrD} (r1:rg r 1 = .ptr 0 0) (g0:H.get 0=some (CsC c ws fs x))
  (hQ:∀ (r':Regs) (h':Heap) (b3 b6:Nat),rg r' 3 = .ptr b3 0→rg r' 4=TR OpC ws→rg r' 5=IL fs→rg r' 6 = .ptr b6 0→h'.get b3=some (CfC c)→h'.get b6=some (CrC x)→Ext H h'→Q .norm r' h'):wpc Tryz.prog cd Q r H:=by
 simp [Tryz.f8,findR] at hc
 subst hc
 have haggC:aggT Tryz.prog 23=some true:=by kernel_rfl
 have hzC:szT Tryz.prog 23=some 5:=by kernel_rfl
 have hzz:zeroAV Tryz.prog 23=some (.agg zCf):=by kernel_rfl
 have haggX:aggT Tryz.prog 64=some true:=by kernel_rfl
 have hzX:szT Tryz.prog 64=some 4:=by kernel_rfl
 have hzzX:zeroAV Tryz.prog 64=some (.agg [.int .i64 0,.nilSl,.int .i64 0,.nilSl]):=by kernel_rfl
 refine wpc_ordJ (fun D r h=>CpH H c x (D 8) (D 9) (D 10) (D 13) (rg r 3) (rg r 6) h) (CsV c ws fs x) (by kernel_rfl) ⟨Ext.refl H,fun h=>(by cases h),fun h=>(by cases h)⟩ ?_ ?_
 ·intro D r2 H1 hH cl hr
  have q1:rg r2 1 = .ptr 0 0:=(ordReg0 hr (by kernel_rfl)).trans r1
  have g1:=hH.1.got g0
  simp only [CsC] at g1
  refine ⟨?_,?_,?_,?_,?_,?_,?_,?_,?_,?_,?_,?_,?_,?_,trivial⟩
  all_goals (intro hL hd;simp [DepL,VL,CsV,Region.binds] at hd)
  ·simp [q1,fieldAddrX,g1,CsV];exact ⟨_,rfl,rfl,hH⟩
  ·simp [hd,g1,loadX_agg haggC,hzC,takeN,CsV,CfA];exact ⟨_,rfl,rfl,hH⟩
  ·simp [q1,fieldAddrX,g1,CsV];exact ⟨_,rfl,rfl,hH⟩
  ·simp [hd,g1,CsV];exact ⟨_,rfl,rfl,hH⟩
  ·simp [q1,fieldAddrX,g1,CsV];exact ⟨_,rfl,rfl,hH⟩
  ·simp [hd,g1,CsV];exact ⟨_,rfl,rfl,hH⟩
  ·simp [q1,fieldAddrX,g1,CsV];exact ⟨_,rfl,rfl,hH⟩
  ·simp [hd,g1,loadX_agg haggX,hzX,takeN,CsV,CrC];exact ⟨_,rfl,rfl,hH⟩
  ·have h10:=cl 10 8 (by kernel_rfl) hL
   obtain ⟨hE,h3,h6⟩:=hH
   simp [hzz,zCf,AV.cells,CsV,h10]
   refine ⟨⟨_,rfl⟩,hE.alloc _,fun _=>⟨_,_,rfl,hE.next,Heap.get_alloc_same _ _,rfl,fun h=>(by cases h)⟩,fun h9=> ?_⟩
   obtain ⟨b,zs,e1,e2,e3,e4,e5⟩:=h6 h9
   exact ⟨b,zs,by simpa using e1,e2,Heap.get_alloc_old e3,e4,e5⟩
  ·have h13:=cl 13 9 (by kernel_rfl) hL
   obtain ⟨hE,h3,h6⟩:=hH
   simp [hzzX,AV.cells,CsV,h13]
   refine ⟨⟨_,rfl⟩,hE.alloc _,fun h8=> ?_,fun _=>⟨_,_,rfl,hE.next,Heap.get_alloc_same _ _,rfl,fun h=>(by cases h)⟩⟩
   obtain ⟨b,zs,e1,e2,e3,e4,e5⟩:=h3 h8
   exact ⟨b,zs,by simpa using e1,e2,Heap.get_alloc_old e3,e4,e5⟩
  ·have l8:D 8=true:=by simp [hd]
   obtain ⟨hE,h3,h6⟩:=hH
   obtain ⟨b,zs,e1,e2,e3,e4,_⟩:=h3 l8
   have hbl:=Heap.get_lt e3
   have hpn:putN zs 0 (CfC c)=some (CfC c):=by
    obtain ⟨z1,z2,z3,z4,z5,rfl⟩:∃ z1 z2 z3 z4 z5,zs=[z1,z2,z3,z4,z5]:=by
     match zs,e4 with
     | [z1,z2,z3,z4,z5],_=>exact ⟨z1,z2,z3,z4,z5,rfl⟩
    rfl
   simp only [CfC] at hpn
   simp [hd,e1,e3,storeX_agg,hzC,CfA,hpn]
   refine ⟨hE.put e2 _,fun h8=> ?_,fun h9=> ?_⟩
   ·exact ⟨b,_,rfl,e2,Heap.get_put_same e3,rfl,fun _=>rfl⟩
   ·obtain ⟨b',zs',f1,f2,f3,f4,f5⟩:=h6 (by simp [hd])
    have hne:b'≠b:=fun e=>by rw [e,e3] at f3;have:=Option.some.inj f3;rw [this] at e4;omega
    exact ⟨b',zs',f1,f2,by rw [Heap.get_put_other e3 hne];exact f3,f4,f5⟩
  ·simp [hd,CsV];exact ⟨_,rfl,rfl,by simpa [hd] using hH⟩
  ·simp [hd,CsV];exact ⟨_,rfl,rfl,by simpa [hd] using hH⟩
  ·have l9:D 9=true:=by simp [hd]
   obtain ⟨hE,h3,h6⟩:=hH
   obtain ⟨b,zs,e1,e2,e3,e4,_⟩:=h6 l9
   have hbl:=Heap.get_lt e3
   have hpn:putN zs 0 (CrC x)=some (CrC x):=by
    obtain ⟨z1,z2,z3,z4,rfl⟩:∃ z1 z2 z3 z4,zs=[z1,z2,z3,z4]:=by
     match zs,e4 with
     | [z1,z2,z3,z4],_=>exact ⟨z1,z2,z3,z4,rfl⟩
    rfl
   simp only [CrC] at hpn
   simp [hd,e1,e3,storeX_agg,hzX,CrC,hpn]
   refine ⟨hE.put e2 _,fun h8=> ?_,fun h9=> ?_⟩
   ·obtain ⟨b',zs',f1,f2,f3,f4,f5⟩:=h3 (by simp [hd])
    have hne:b'≠b:=fun e=>by rw [e,e3] at f3;have:=Option.some.inj f3;rw [this] at e4;omega
    exact ⟨b',zs',f1,f2,by rw [Heap.get_put_other e3 hne];exact f3,f4,fun _=>f5 (by simp [hd])⟩
   ·exact ⟨b,_,rfl,e2,Heap.get_put_same e3,rfl,fun _=>rfl⟩
 ·intro D r2 H1 hall hH hr hA
  obtain ⟨hE,h3,h6⟩:=hH
  obtain ⟨b3,z3,e1,_,e2,_,e3⟩:=h3 (hall 8 (by decide))
  obtain ⟨b6,z6,f1,_,f2,_,f3⟩:=h6 (hall 9 (by decide))
  rw [e3 (hall 10 (by decide))] at e2
  rw [f3 (hall 13 (by decide))] at f2
  obtain ⟨_,_,_,_,_,_,_,_,_,_,_,h11,h12,_⟩:=hA
  simp [VL,CsV] at h11 h12
  exact hQ r2 H1 b3 b6 e1 h11 h12 f1 e2 f2 hE
end Go.Proofs.YtjcnihmbpakipaaGreatDoor.X
