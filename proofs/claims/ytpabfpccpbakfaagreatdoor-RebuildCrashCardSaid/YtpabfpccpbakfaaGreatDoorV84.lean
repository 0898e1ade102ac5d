/-
  Rebuild: its methods; RebuildNil.
-/
import Derived.Test.YtpabfpccpbakfaaGreatDoorV82
import Derived.Test.YtpabfpccpbakfaaGreatDoorP25
namespace Go.Proofs.YtpabfpccpbakfaaGreatDoor.X
open Go.RowKit F
set_option maxRecDepth 100000
set_option linter.unusedSimpArgs false
set_option linter.unusedVariables false
def rbC (pv:Nat) (n:Int):List AV:=[.ptr pv 0,.int .i64 n]
theorem A7r {a:Arr} {d:Nat} (hd:d < a.disks.length):(a.replace (d:Int)).2=0:=by
 have hx:a.disks[d]? = some a.disks[d]:=List.getElem?_eq_getElem hd
 unfold Arr.replace Arr.does
 rw [Um,hx]
section
variable {p q nb:Nat} {cells:List AV} {ps:List Nat} {pv br:Nat} {c:Cfg} {k:Nat} {a:Arr} {sq:Int} {E:Nat→Prop} {hp:Heap} {L:List Txt}
theorem LawV.A29 (H:LawV p q nb cells ps pv c k a sq E hp) (hC:As c) (hk:k < 2 ^ 27) (hb : -4611686018427387904 < (Dy a 7 c).1∧(Dy a 7 c).1 < 4611686018427387904) :
  CSem Tryz.prog 20 [.ptr pv 0] hp fun x h'=>x = .tup [.int .i64 (Jq a 7 c).1,.int .i64 (Jq a 7 c).2]∧h'=hp:=by
 refine CSem.body hm Tryz.func20 rfl (by kernel_rfl) (by kernel_rfl) (by simp [Tryz.ntmps20]) ?_
 simp [Tryz.f20]
 refine (H.least hC hk).use ?_
 have h0:=Bk hC
 have hfx:G6 Tryz.prog 23 (CfA c) 0=some (.int .i64 c.k):=by kernel_rfl
 unfold Jq
 by_cases he:(Dy a 7 c).2=0
 ·have hw:IntKind.i64.wrap ((Dy a 7 c).1 - c.k)=(Dy a 7 c).1 - c.k:=wrap64 (by omega) (by omega)
  simp [he]
  refine (Hv H.gv).use ?_
  simp [hfx,hw]
 ·simp [he]
theorem LawV.A7s (H:LawV p q nb cells ps pv c k a sq E hp) (hdn:a.down=false) (d:Int) :
  CSem Tryz.prog 17 [.ptr p 0,.ptr pv 0,.int .i64 d] hp fun x h'=>(d < 0∨(a.disks.length:Int)≤d→x = .tup [.nilPtr,.int .i64 1]∧h'=hp)∧(¬(d < 0∨(a.disks.length:Int)≤d)→∃ br,x = .tup [.ptr br 0,.int .i64 0]∧LawV p q nb cells ps pv c k (a.replace d).1 sq (fun x=>E x∨x=br) h'∧h'.get br=some (rbC pv 0)∧Fr' E hp h'∧∀ x,E x→x≠br):=by
 refine CSem.body hm Tryz.func17 rfl (by kernel_rfl) (by kernel_rfl) (by simp [Tryz.ntmps17]) ?_
 have hb:Ce Tryz.prog 104 [(0,.ptr pv 0)]=some (.agg [.ptr pv 0,.int .i64 0]):=by kernel_rfl
 by_cases d0:d < 0
 ·simp [Tryz.f17,d0]
 by_cases d1:(a.disks.length:Int)≤d
 ·simp [Tryz.f17,d0]
  refine (D9 H.at_).use ?_
  simp [d1]
 obtain ⟨n,rfl⟩:=Int.eq_ofNat_of_zero_le (show 0≤d by omega)
 have hr:=A7r (a:=a) (d:=n) (by omega)
 simp [Tryz.f17,d0]
 refine (D9 H.at_).use ?_
 simp [d1]
 refine (Mf H.at_).use ?_
 simp [hdn]
 refine (H.repl n).then ?_
 rintro _ h1 ⟨rfl,L1,F1⟩
 obtain ⟨L2,g2,F2⟩:=L1.box1 [.ptr pv 0,.int .i64 0]
 simp [hr,hb,AV.cells]
 exact ⟨rfl,by omega,fun _=>⟨L2,g2,F1.trans F2,fun x hx=>by have:=L1.lt hx;omega⟩⟩
def rstD (s:ScD):Bool:=decide (s.er=0) && (decide (s.rp.lo≤0) && s.rp.dn)
def rstE (s:ScD):Int:=if s.er=0 then (if 0 < s.rp.lo then 10 else 0) else s.er
def rstN (s:ScD) (n:Int):Int:=if s.er=0 then s.rp.nx else n
def bf2 {α:Type} (b:Bool) (x y:α):α:=if b=true then x else y
def repZ:List AV:=[.int .i64 0,.int .i64 0,.int .i64 0,.bool false]
def RbH (p q nb:Nat) (cells:List AV) (ps:List Nat) (pv br:Nat) (c:Cfg) (k:Nat) (a:Arr) (ST:ScD) (sq:Int) (E:Nat→Prop) (hp:Heap) (l9 l13 l14:Bool) (v6:AV) (h:Heap):Prop :=
 (l13=false→LawV p q nb cells ps pv c (bf2 l9 (k+300000) k) (bf2 l9 ST.ar a) sq E h)∧(l13=true→∃ b2,v6 = .ptr b2 0∧(∀ x,E x→x≠b2)∧LawV p q nb cells ps pv c (bf2 l9 (k+300000) k) (bf2 l9 ST.ar a) sq (fun x=>E x∨x=b2) h∧h.get b2=some (bf2 l14 (repC ST.rp) repZ))∧Fr' E hp h
def RbV (pv br:Nat) (n many:Int) (ST:ScD):Nat→AV→Prop
 | 0,v=>v = .ptr br 0
 | 1,v=>v = .ptr br 0
 | 2,v=>v = .ptr br 0
 | 3,v=>v = .ptr pv 0
 | 4,v=>v = .ptr br 0
 | 5,v=>v = .ptr br 0
 | 6,v=>v = .ptr br 1
 | 7,v=>v = .int .i64 n
 | 8,v=>v = .int .i64 many
 | 9,v=>v = .tup [.agg (repC ST.rp),.int .i64 ST.er]
 | 10,v=>v = .tup [.agg (repC ST.rp),.int .i64 ST.er]
 | 11,v=>v = .agg (repC ST.rp)
 | 12,v=>v = .int .i64 ST.er
 | 15,v=>v = .int .i64 ST.er
 | _,v=>True
theorem rb3 {cd:Code} (hc:(Tryz.f18.body).bind (Es 3)=some cd) {r:Regs} {Q:Out→Regs→Heap→Prop} (H:LawV p q nb cells ps pv c k a sq E hp) (hC:As c) (hk:k < 2 ^ 26) (hbr:E br) {n many:Int} (g:hp.get br=some [.ptr pv 0,.int .i64 n]) (r0:rg r 0 = .ptr br 0) (r1:rg r 1 = .int .i64 many)
  (hQ:∀ r' h' b2,rg r' 0 = .ptr br 0→rg r' 6 = .ptr b2 0→rg r' 7 = .int .i64 (Bj a 7 c n many).er→LawV p q nb cells ps pv c (k+300000) (Bj a 7 c n many).ar sq (fun x=>E x∨x=b2) h'→h'.get b2=some (repC (Bj a 7 c n many).rp)→Fr' E hp h'→b2≠br→Q .norm r' h'):wpc Tryz.prog cd Q r hp:=by
 simp [Tryz.f18,Es] at hc
 subst hc
 have haggR:aggT Tryz.prog 44=some true:=by kernel_rfl
 have hzR:szT Tryz.prog 44=some 4:=by kernel_rfl
 have hzr:Au Tryz.prog 44=some (.agg repZ):=by kernel_rfl
 have hat:∀ x∈repC (Bj a 7 c n many).rp,x.atom=true:=fun x hx=>List.all_eq_true.1 (show (repC (Bj a 7 c n many).rp).all AV.atom=true from rfl) x hx
 have hstep:=fun (E:Nat→Prop) (hp:Heap) (H:LawV p q nb cells ps pv c k a sq E hp)=>H.step hC hk n many
 generalize hSTe:Bj a 7 c n many=ST at hstep hQ hat
 refine Gf (fun L r' h=>RbH p q nb cells ps pv br c k a ST sq E hp (L 9) (L 13) (L 14) (rg r' 6) h) (RbV pv br n many ST) (by kernel_rfl) ⟨fun _=>H,fun h=>(by cases h),Fr'.refl _ _⟩ ?_ ?_
 ·intro L r2 H1 hH cl hr
  have q0:rg r2 0 = .ptr br 0:=(Db hr (by kernel_rfl)).trans r0
  have q1:rg r2 1 = .int .i64 many:=(Db hr (by kernel_rfl)).trans r1
  have g1:H1.get br=some [.ptr pv 0,.int .i64 n]:=(hH.2.2 br hbr).trans g
  refine ⟨?_,?_,?_,?_,?_,?_,?_,?_,?_,?_,?_,?_,?_,?_,?_,?_,trivial⟩
  all_goals (intro hL hd;simp [DepL,VL,RbV,Region.binds] at hd)
  ·simp [q0,RbV];exact ⟨_,rfl,rfl,hH⟩
  ·simp [hd,RbV];exact ⟨_,rfl,rfl,hH⟩
  ·simp [hd,A8,RbV];exact ⟨_,rfl,rfl,hH⟩
  ·simp [hd,g1,RbV];exact ⟨_,rfl,rfl,hH⟩
  ·simp [q0,RbV];exact ⟨_,rfl,rfl,hH⟩
  ·simp [hd,RbV];exact ⟨_,rfl,rfl,hH⟩
  ·simp [hd,A8,RbV];exact ⟨_,rfl,rfl,hH⟩
  ·simp [hd,g1,RbV];exact ⟨_,rfl,rfl,hH⟩
  ·simp [q1,RbV];exact ⟨_,rfl,rfl,hH⟩
  ·have l9:L 9=false:=hL
   obtain ⟨h1,h2,h3⟩:=hH
   rw [l9] at h1 h2
   simp [hd]
   by_cases l13:L 13=true
   ·obtain ⟨b2,e2,n2,H2,g2⟩:=h2 l13
    refine (hstep _ _ H2).then ?_
    rintro _ h' ⟨rfl,L',F'⟩
    refine ⟨_,rfl,rfl,fun h=>by simp [l13] at h,fun _=>⟨b2,by simpa using e2,n2,L',?_⟩,h3.trans (F'.less fun x hx=> .inl hx)⟩
    exact (F' b2 (.inr rfl)).trans (by simpa using g2)
   ·have l13':L 13=false:=by simpa using l13
    refine (hstep _ _ (h1 l13')).then ?_
    rintro _ h' ⟨rfl,L',F'⟩
    exact ⟨_,rfl,rfl,fun _=>L',fun h=>by simp [l13'] at h,h3.trans F'⟩
  ·simp [hd,RbV];exact ⟨_,rfl,rfl,by simpa [hd] using hH⟩
  ·simp [hd,RbV];exact ⟨_,rfl,rfl,by simpa [hd] using hH⟩
  ·simp [hd,RbV];exact ⟨_,rfl,rfl,by simpa [hd] using hH⟩
  ·have l13:L 13=false:=hL
   have l14:=cl 14 13 (by kernel_rfl) hL
   obtain ⟨h1,h2,h3⟩:=hH
   have H2:=h1 l13
   obtain ⟨k1,k2,k3⟩:=H2.box1 repZ
   have hne:∀ x,E x→x≠H1.next:=fun x hx=>by have:=H2.lt hx;omega
   simp [hzr,repZ,AV.cells,RbV]
   exact ⟨⟨_,rfl⟩,fun h=>(by cases h),fun _=>⟨_,rfl,hne,k1,by simpa [l14,bf2,repZ] using k2⟩,h3.trans k3⟩
  ·have l14:L 14=false:=hL
   have l13:L 13=true:=by simp [hd]
   have l9:L 9=true:=by
    cases h9:L 9 with
    | true=>rfl
    | false =>
     have:=cl 11 10 (by kernel_rfl) (cl 10 9 (by kernel_rfl) h9)
     simp [this] at hd
   obtain ⟨h1,h2,h3⟩:=hH
   obtain ⟨b2,e2,n2,H2,g2⟩:=h2 l13
   rw [l14] at g2
   rw [l9] at H2
   have g2:H1.get b2=some repZ:=g2
   simp only [repZ] at g2
   have hb2:=Heap.Ah g2
   simp only [repC] at hd hat
   have H3:=H2.put (.inr rfl) [.int .i64 ST.rp.nx,.int .i64 ST.rp.me,.int .i64 ST.rp.lo,.bool ST.rp.dn] g2
   have g3:(H1.put b2 [.int .i64 ST.rp.nx,.int .i64 ST.rp.me,.int .i64 ST.rp.lo,.bool ST.rp.dn]).get b2=some [.int .i64 ST.rp.nx,.int .i64 ST.rp.me,.int .i64 ST.rp.lo,.bool ST.rp.dn]:=Heap.Ac g2
   have F3:Fr' E H1 (H1.put b2 [.int .i64 ST.rp.nx,.int .i64 ST.rp.me,.int .i64 ST.rp.lo,.bool ST.rp.dn]):=fun x hx=>Heap.Ag g2 (n2 x hx)
   simp [e2,hd,Ae,hzR,g2,putN]
   exact ⟨fun h=>(by cases h),fun _=>⟨b2,rfl,n2,H3,g3⟩,h3.trans F3⟩
  ·simp [hd,RbV];exact ⟨_,rfl,rfl,by simpa [hd] using hH⟩
 ·intro L r2 H1 hall hH hr hA
  obtain ⟨_,h2,h3⟩:=hH
  rw [hall 13 (by decide),hall 9 (by decide),hall 14 (by decide)] at h2
  obtain ⟨b2,e2,n2,H2,g2⟩:=h2 rfl
  obtain ⟨_,_,_,_,_,_,_,_,_,_,_,_,_,_,_,h15,_⟩:=hA
  simp [VL,RbV] at h15
  exact hQ r2 H1 b2 ((hr 0 (by simp)).trans r0) e2 h15 H2 g2 h3 (Ne.symm (n2 br hbr))
theorem LawV.A9x (H:LawV p q nb cells ps pv c k a sq E hp) (hC:As c) (hk:k < 2 ^ 26) (hbr:E br) {n:Int} (g:hp.get br=some (rbC pv n)) (many:Int) :
  CSem Tryz.prog 18 [.ptr br 0,.int .i64 many] hp fun x h'=>x = .tup [.bool (rstD (Bj a 7 c n many)),.int .i64 (rstE (Bj a 7 c n many))]∧LawV p q nb cells ps pv c (k+300000) (Bj a 7 c n many).ar sq E h'∧h'.get br=some (rbC pv (rstN (Bj a 7 c n many) n))∧Fr' (fun x=>E x∧x≠br) hp h':=by
 refine CSem.body hm Tryz.func18 rfl (by kernel_rfl) (by kernel_rfl) (by simp [Tryz.ntmps18]) ?_
 have haggR:aggT Tryz.prog 44=some true:=by kernel_rfl
 have hzR:szT Tryz.prog 44=some 4:=by kernel_rfl
 have hzr:Au Tryz.prog 44=some (.agg [.int .i64 0,.int .i64 0,.int .i64 0,.bool false]):=by kernel_rfl
 have g':hp.get br=some [.ptr pv 0,.int .i64 n]:=g
 refine Eg (fun r h=>rg r 0 = .ptr br 0∧rg r 1 = .int .i64 many∧hp=h) ?_ (by simp)
 rintro r _ ⟨r0,r1,rfl⟩
 rw [C8]
 refine Fb (fun r' h'=>rg r' 0 = .ptr br 0∧rg r' 1 = .int .i64 many∧hp=h') (by simp [r0,r1]) ?_
 clear r0 r1
 rintro r _ ⟨r0,r1,rfl⟩
 rw [De,C8]
 refine rb3 rfl H hC hk hbr g' r0 r1 fun r3 h2 b2 q0 q6 q7 L2 g2 F n2=> ?_
 have k2:=(F br hbr).trans g'
 have hne:b2≠br:=n2
 simp only [repC] at g2
 generalize Bj a 7 c n many=ST at L2 g2 q7 ⊢
 have hbl:=Heap.Ah k2
 unfold rstD rstE rstN
 by_cases he:ST.er=0
 rotate_left
 ·simp [q7,he]
  exact ⟨L2.less fun x hx=> .inl hx,k2,F.less fun x hx=>hx.1⟩
 have L3:=(L2.put (.inl hbr) (rbC pv ST.rp.nx) k2).less (E':=E) fun x hx=> .inl hx
 have g3:(h2.put br (rbC pv ST.rp.nx)).get br=some (rbC pv ST.rp.nx):=Heap.Ac k2
 have k3:(h2.put br (rbC pv ST.rp.nx)).get b2=some [.int .i64 ST.rp.nx,.int .i64 ST.rp.me,.int .i64 ST.rp.lo,.bool ST.rp.dn]:=(Heap.Ag k2 hne).trans g2
 have F3:Fr' (fun x=>E x∧x≠br) hp (h2.put br (rbC pv ST.rp.nx)):=fun x hx=>(Heap.Ag k2 hx.2).trans (F x hx.1)
 simp only [rbC] at L3 g3 k3 F3
 simp [q0,q6,q7,he,A8,g2,k2,hbl]
 generalize h2.put br [.ptr pv 0,.int .i64 ST.rp.nx]=h3 at L3 g3 k3 F3 ⊢
 by_cases hlo:0 < ST.rp.lo
 ·simp [q6,q7,A8,k3,hlo,rbC]
  exact ⟨by omega,L3,g3,F3⟩
 have hlo':ST.rp.lo≤0:=by omega
 cases hdn:ST.rp.dn with
 | false =>
  rw [hdn] at k3
  simp [q6,q7,A8,k3,hlo,hlo',rbC]
  exact ⟨he,L3,g3,F3⟩
 | true =>
  rw [hdn] at k3
  simp [q6,q7,A8,k3,hlo,hlo',rbC]
  exact ⟨L3,g3,F3⟩
theorem LawV.rleft (H:LawV p q nb cells ps pv c k a sq E hp) (hC:As c) {n:Int} (g:hp.get br=some (rbC pv n)) (hn:0≤n∧n≤c.st) :
  CSem Tryz.prog 51 [.ptr br 0] hp fun x h'=>x = .int .i64 (c.st - n)∧h'=hp:=by
 refine CSem.body hm Tryz.func51 rfl (by kernel_rfl) (by kernel_rfl) (by simp [Tryz.ntmps51]) ?_
 have h0:=Bk hC
 have g':hp.get br=some [.ptr pv 0,.int .i64 n]:=g
 have hw:IntKind.i64.wrap (c.st - n)=c.st - n:=wrap64 (by omega) (by omega)
 simp [Tryz.f51]
 refine Bh 11 (by kernel_rfl) ?_
 simp [A8,g']
 refine Cp.use (x:=CfA c) (Hv H.gv) ?_
 have hfx:G6 Tryz.prog 23 (CfA c) 3=some (.int .i64 c.st):=by kernel_rfl
 simp [hfx,A8,g',hw]
end
def lr1:Arr:=(lw0.1.fail 0).1
def lr2:Arr:=(lr1.replace 0).1
def lr3:ScD:=Bj lr2 7 cw 0 2
def lr4:ScD:=Bj lr3.ar 7 cw 2 2
def lr5:ScD:=Bj lr4.ar 7 cw 3 0
def A9y:Bool:=decide (lw0.1.down=false) && decide (lw0.1.disks.length=3) && decide (lr1.down=false) && decide (lr1.disks.length=3) && decide (Dy lr2 7 cw=(2,0)) && decide (rstD lr3=false) && decide (rstE lr3=0) && decide (rstN lr3 0=2) && decide (rstD lr4=true) && decide (rstE lr4=0) && decide (rstN lr4 2=3) && decide (Dy lr4.ar 7 cw=(3,0)) && decide (rstD lr5=false) && decide (rstE lr5=1) && decide (rstN lr5 3=3)
theorem Afj:A9y=true:=by decide+kernel
theorem A4q:CSem Tryz.prog 15 [] Heap.empty fun x h'=>x = .bool true:=by
 refine CSem.body hm Tryz.func15 rfl (by kernel_rfl) (by kernel_rfl) (by simp [Tryz.ntmps15]) ?_
 have haggC:aggT Tryz.prog 23=some true:=by kernel_rfl
 have hzC:szT Tryz.prog 23=some 5:=by kernel_rfl
 have hzz:Au Tryz.prog 23=some (.agg [.int .i64 0,.int .i64 0,.int .i64 0,.int .i64 0,.int .i64 0]):=by kernel_rfl
 have hbd:Ce Tryz.prog 23 [(0,.int .i64 2),(1,.int .i64 1),(2,.int .i64 8),(3,.int .i64 3),(4,.int .i64 1)]=some (.agg [.int .i64 2,.int .i64 1,.int .i64 8,.int .i64 3,.int .i64 1]):=by kernel_rfl
 have hbs:∀ (h:Heap),Bz Tryz.prog h 24 3 [(0,S [97]),(1,S [98]),(2,S [99])]=some (.sl h.next 0 3 3 1,h.alloc (cwT.map S)):=fun h=>by kernel_rfl
 have hB:=Afj
 simp only [A9y,Bool.and_eq_true,decide_eq_true_eq] at hB
 obtain ⟨⟨⟨⟨⟨⟨⟨⟨⟨⟨⟨⟨⟨⟨f1,f2⟩,f3⟩,f4⟩,f5⟩,f6⟩,f7⟩,f8⟩,f9⟩,f10⟩,f11⟩,f12⟩,f13⟩,f14⟩,f15⟩:=hB
 have s1:Jq lr2 7 cw=(0,0):=by unfold Jq;rw [f5];rfl
 have s2:Jq lr4.ar 7 cw=(1,0):=by unfold Jq;rw [f12];rfl
 simp only [Tryz.f15]
 generalize hg:Code.seq (Code.region 16 _ _) _=c16
 have e0:∀ zs,(Heap.empty.alloc zs).get 0=some zs:=fun zs=>Heap.A9 Heap.empty zs
 simp [hbd,hzz,AV.cells,Ae,hzC,putN,e0]
 have e1:((Heap.empty.alloc [.int .i64 0,.int .i64 0,.int .i64 0,.int .i64 0,.int .i64 0]).put 0 [.int .i64 2,.int .i64 1,.int .i64 8,.int .i64 3,.int .i64 1]).get 0=some [.int .i64 2,.int .i64 1,.int .i64 8,.int .i64 3,.int .i64 1]:=Heap.Ac (e0 _)
 have lp1:((Heap.empty.alloc [.int .i64 0,.int .i64 0,.int .i64 0,.int .i64 0,.int .i64 0]).put 0 [.int .i64 2,.int .i64 1,.int .i64 8,.int .i64 3,.int .i64 1]).lp=none:=rfl
 generalize (Heap.empty.alloc [.int .i64 0,.int .i64 0,.int .i64 0,.int .i64 0,.int .i64 0]).put 0 [.int .i64 2,.int .i64 1,.int .i64 8,.int .i64 3,.int .i64 1]=H1 at e1 lp1 ⊢
 have hpos1:=Heap.Ah e1
 simp [e1,Ab haggC,hzC,takeN,hbs]
 refine (Xf cwP (by decide) (ts:=cwT) (tv:= .sl H1.next 0 3 3 1) (by decide) _ (.inr ⟨H1.next,rfl,Heap.A9 _ _⟩) lp1).then ?_
 rintro _ H2 ⟨p,q,nb,cells,ps,pv,rfl,LH,_⟩
 have LH:LawV p q nb cells ps pv cw 0 lw0.1 lw0.2 (fun _=>False) H2:=LH.less fun _ h=>h.elim
 simp
 refine (LH.A7s f1 3).then ?_
 rintro _ H3 ⟨q1,_⟩
 obtain ⟨rfl,rfl⟩:=q1 (.inr (by rw [f2];decide))
 simp
 refine (LH.fail 0).then ?_
 rintro _ H4 ⟨rfl,L4,_⟩
 have L4:LawV p q nb cells ps pv cw 0 lr1 lw0.2 (fun _=>False) H4:=L4
 simp
 refine (L4.A7s f3 0).then ?_
 rintro _ H5 ⟨_,q2⟩
 obtain ⟨br,rfl,L5,g5,_,_⟩:=q2 (by rw [f4];decide)
 have L5:LawV p q nb cells ps pv cw 0 lr2 lw0.2 (fun x=>x=br) H5:=L5.less fun x hx=> .inr hx
 simp
 refine (L5.A29 cwP (by decide) (by rw [f5];decide)).use ?_
 rw [s1]
 simp
 refine (L5.A9x cwP (by decide) rfl g5 2).then ?_
 rintro _ H6 ⟨rfl,L6,g6,_⟩
 have r3:Bj lr2 7 cw 0 2=lr3:=rfl
 rw [r3] at L6 g6 ⊢
 rw [f8] at g6
 rw [f6,f7]
 simp
 refine (L6.rleft cwP g6 (by decide)).use ?_
 simp
 refine (L6.A9x cwP (by decide) rfl g6 2).then ?_
 rintro _ H7 ⟨rfl,L7,g7,_⟩
 have r4:Bj lr3.ar 7 cw 2 2=lr4:=rfl
 rw [r4] at L7 g7 ⊢
 rw [f11] at g7
 rw [f9,f10]
 simp
 refine (L7.A29 cwP (by decide) (by rw [f12];decide)).use ?_
 rw [s2]
 simp
 refine (L7.A9x cwP (by decide) rfl g7 0).then ?_
 rintro _ H8 ⟨rfl,L8,g8,_⟩
 have r5:Bj lr4.ar 7 cw 3 0=lr5:=rfl
 rw [r5] at L8 g8 ⊢
 rw [f15] at g8
 rw [f13,f14]
 subst hg
 simp [cw]
 refine (L8.rleft cwP g8 (by decide)).use ?_
 simp [cw]
theorem A4r:Aq Tryz.prog 15 [] (.bool true):=Aq.Az (k:=1) (A4q.mono fun x h hx=>by subst hx;rfl)
theorem A4s (h:Heap):CSem Tryz.prog 15 [] h fun x h'=>x = .bool true∧h'=h:=A4r.call (k:=1) rfl
theorem out18 (h:Heap) (K:AV→Heap→Prop) (hK:K (.bool true) h):Call Tryz.prog 15 [] h K:=(A4s h).use hK
end Go.Proofs.YtpabfpccpbakfaaGreatDoor.X
