/-
  An array and a volume beside other blocks; law17.made, law18.made.
-/
import Derived.Test.YtpabfpccpbakfaaGreatDoorV76
namespace Go.Proofs.YtpabfpccpbakfaaGreatDoor.X
open Go.RowKit F
set_option maxRecDepth 100000
set_option linter.unusedSimpArgs false
set_option linter.unusedVariables false
def Fr' (E:Nat→Prop) (h h':Heap):Prop:= ∀ x,E x→h'.get x=h.get x
theorem Fr'.trans {E:Nat→Prop} {h h1 h2:Heap} (a:Fr' E h h1) (b:Fr' E h1 h2):Fr' E h h2:=fun x hx=>(b x hx).trans (a x hx)
theorem Fr'.refl (E:Nat→Prop) (h:Heap):Fr' E h h:=fun _ _=>rfl
theorem Fr'.less {E E':Nat→Prop} {h h':Heap} (a:Fr' E h h') (k:∀ x,E' x→E x):Fr' E' h h':=fun x hx=>a x (k x hx)
structure LawV (p q nb:Nat) (cells:List AV) (ps:List Nat) (pv:Nat) (c:Cfg) (k:Nat) (a:Arr) (sq:Int) (E:Nat→Prop) (hp:Heap):Prop where
 gv:hp.get pv=some (volC p c 7 sq)
 at_:At (ArrI p q nb cells ps a) (fun x=>x=pv∨E x) hp
 lp:hp.lp=none
 q:ArrQ k a
 len:(a.disks.length:Int)=c.k+c.m
 ne:∀ x,E x→x≠pv
section
variable {p q nb:Nat} {cells:List AV} {ps:List Nat} {pv:Nat} {c:Cfg} {k:Nat} {a:Arr} {sq:Int} {E:Nat→Prop} {hp:Heap} {L:List Txt}
theorem LawV.lt (H:LawV p q nb cells ps pv c k a sq E hp) {b:Nat} (hb:E b):b < hp.next:=H.at_.lt (.inr hb)
theorem LawV.less (H:LawV p q nb cells ps pv c k a sq E hp) {E':Nat→Prop} (h:∀ x,E' x→E x):LawV p q nb cells ps pv c k a sq E' hp :=
 ⟨H.gv,H.at_.mono fun x hx=>hx.imp_right (h x),H.lp,H.q,H.len,fun x hx=>H.ne x (h x hx)⟩
theorem LawV.alloc (H:LawV p q nb cells ps pv c k a sq E hp) (cs:List AV):LawV p q nb cells ps pv c k a sq (fun x=>E x∨x=hp.next) (hp.alloc cs):=by
 refine ⟨Heap.Af H.gv,(H.at_.alloc (ArrI.loc p q nb cells ps a) cs).mono fun x hx=> ?_,H.lp,H.q,H.len,fun x hx=> ?_⟩
 ·rcases hx with hx|hx|hx
  ·exact .inl (.inl hx)
  ·exact .inl (.inr hx)
  ·exact .inr hx
 ·rcases hx with hx|rfl
  ·exact H.ne x hx
  ·have h1:=Heap.Ah H.gv
   omega
theorem LawV.put (H:LawV p q nb cells ps pv c k a sq E hp) {b:Nat} (hb:E b) (cs:List AV) {zs:List AV} (hg:hp.get b=some zs):LawV p q nb cells ps pv c k a sq E (hp.put b cs):=by
 refine ⟨?_,H.at_.put (ArrI.loc p q nb cells ps a) cs (.inr hb),H.lp,H.q,H.len,H.ne⟩
 rw [Heap.Ag hg (Ne.symm (H.ne b hb))];exact H.gv
theorem LawV.box (H:LawV p q nb cells ps pv c k a sq E hp) (cs ys:List AV):LawV p q nb cells ps pv c k a sq (fun x=>E x∨x=hp.next) ((hp.alloc cs).put hp.next ys)∧((hp.alloc cs).put hp.next ys).get hp.next=some ys∧Fr' E hp ((hp.alloc cs).put hp.next ys):=by
 have hg:(hp.alloc cs).get hp.next=some cs:=Heap.A9 _ _
 refine ⟨(H.alloc cs).put (.inr rfl) ys hg,Heap.Ac hg,fun x hx=> ?_⟩
 have:=H.at_.lt (.inr hx)
 rw [Heap.Ag hg (by omega),Heap.Aa,if_neg (by omega)]
theorem LawV.box1 (H:LawV p q nb cells ps pv c k a sq E hp) (cs:List AV):LawV p q nb cells ps pv c k a sq (fun x=>E x∨x=hp.next) (hp.alloc cs)∧(hp.alloc cs).get hp.next=some cs∧Fr' E hp (hp.alloc cs):=by
 refine ⟨H.alloc cs,Heap.A9 _ _,fun x hx=> ?_⟩
 have:=H.at_.lt (.inr hx)
 rw [Heap.Aa,if_neg (by omega)]
theorem LawV.vol (H:LawV p q nb cells ps pv c k a sq E hp) (hC:As c) (hk:k < 2 ^ 27):VolB k a c:=⟨hC,H.q,by omega⟩
theorem LawV.mono (H:LawV p q nb cells ps pv c k a sq E hp) {k':Nat} (hk:ArrQ k' a):LawV p q nb cells ps pv c k' a sq E hp:=⟨H.gv,H.at_,H.lp,hk,H.len,H.ne⟩
theorem LawV.turn (H:LawV p q nb cells ps pv c k a sq E hp) {h':Heap} {a':Arr} {k':Nat} (K:Keep (fun x=>x=pv∨E x) hp h') (A:At (ArrI p q nb cells ps a') (fun x=>x=pv∨E x) h') (Q:ArrQ k' a') (hl:a'.disks.length=a.disks.length) :
  LawV p q nb cells ps pv c k' a' sq E h'∧Fr' E hp h' :=
 ⟨⟨K.got (.inl rfl) H.gv,A,K.lp.trans H.lp,Q,by rw [hl];exact H.len,H.ne⟩,fun x hx=>K.get x (.inr hx)⟩
theorem LawV.write (H:LawV p q nb cells ps pv c k a sq E hp) (hC:As c) (hk:k < 2 ^ 27) (hs0:0≤sq) (hs1:sq < 2 ^ 61) (n:Int) (t:Txt) :
  CSem Tryz.prog 30 [.ptr pv 0,.int .i64 n,S t] hp fun x h'=>x = .int .i64 (Bf a 7 c sq n t).2.2∧LawV p q nb cells ps pv c (k+2 * a.disks.length) (Bf a 7 c sq n t).1 (Bf a 7 c sq n t).2.1 E h'∧Fr' E hp h':=by
 have h0:=Bk hC
 refine (A7p (H.vol hC hk) H.len hk (by decide) H.gv H.at_ (.inl rfl) hs0 hs1 H.lp n t).mono ?_
 rintro x h' ⟨rfl,A,K,gv⟩
 have Q:=Af8 H.q 7 c sq n t
 have hal:=Cd a (c.m+1).toNat
 have hl:=H.len
 refine ⟨rfl,⟨gv,A,K.lp.trans H.lp,Q.mono (by omega),by rw [A7e];exact hl,H.ne⟩,fun x hx=>K.get x ⟨.inr hx,H.ne x hx⟩⟩
theorem LawV.fail (H:LawV p q nb cells ps pv c k a sq E hp) (d:Int) :
  CSem Tryz.prog 23 [.ptr p 0,.int .i64 d] hp fun x h'=>x = .int .i64 (a.fail d).2∧LawV p q nb cells ps pv c k (a.fail d).1 sq E h'∧Fr' E hp h':=by
 refine (Abz H.at_ d).mono ?_
 rintro x h' ⟨rfl,A,K⟩
 exact ⟨rfl,H.turn K A (H.q.fail d) (by simp)⟩
theorem LawV.repl (H:LawV p q nb cells ps pv c k a sq E hp) (d:Int) :
  CSem Tryz.prog 24 [.ptr p 0,.int .i64 d] hp fun x h'=>x = .int .i64 (a.replace d).2∧LawV p q nb cells ps pv c k (a.replace d).1 sq E h'∧Fr' E hp h':=by
 refine (A2m H.at_ d).mono ?_
 rintro x h' ⟨rfl,A,K⟩
 exact ⟨rfl,H.turn K A (H.q.replace d) (by simp)⟩
theorem LawV.corr (H:LawV p q nb cells ps pv c k a sq E hp) (hk:k < 2 ^ 27) (d n:Int) (s:Txt) :
  CSem Tryz.prog 32 [.ptr p 0,.int .i64 d,.int .i64 n,S s] hp fun x h'=>x = .int .i64 (a.B9 d n s).2∧LawV p q nb cells ps pv c k (a.B9 d n s).1 sq E h'∧Fr' E hp h':=by
 refine (A2n H.at_ H.q.b (by omega) d n s).mono ?_
 rintro x h' ⟨rfl,A,K⟩
 exact ⟨rfl,H.turn K A (H.q.B9 d n s) (by simp)⟩
theorem LawV.step (H:LawV p q nb cells ps pv c k a sq E hp) (hC:As c) (hk:k < 2 ^ 26) (fr many:Int) :
  CSem Tryz.prog 11 [.ptr pv 0,.int .i64 fr,.int .i64 many] hp fun x h'=>x = .tup [.agg (repC (Bj a 7 c fr many).rp),.int .i64 (Bj a 7 c fr many).er]∧LawV p q nb cells ps pv c (k+300000) (Bj a 7 c fr many).ar sq E h'∧Fr' E hp h':=by
 refine (Zw hC H.q H.len hk (by decide) H.gv H.at_ (.inl rfl) H.lp fr many).mono ?_
 rintro x h' ⟨rfl,A,K⟩
 obtain ⟨hl,Q⟩:=Afb H.q hC 7 fr many
 exact ⟨rfl,H.turn K A (Q.mono (by have:=H.q.b.few;omega)) hl⟩
theorem LawV.all (H:LawV p q nb cells ps pv c k a sq E hp) (hC:As c) (hk:k < 2 ^ 26) :
  CSem Tryz.prog 22 [.ptr pv 0] hp fun x h'=>x = .tup [.agg (repC (Dt a 7 c).rp),.int .i64 (Dt a 7 c).er]∧LawV p q nb cells ps pv c (k+300000) (Dt a 7 c).ar sq E h'∧Fr' E hp h':=by
 refine (Afc hC H.q H.len hk (by decide) H.gv H.at_ (.inl rfl) H.lp).mono ?_
 rintro x h' ⟨rfl,A,K⟩
 obtain ⟨hl,Q⟩:=Afb H.q hC 7 0 (max c.st 1)
 exact ⟨rfl,H.turn K A (Q.mono (by have:=H.q.b.few;omega)) hl⟩
theorem LawV.least (H:LawV p q nb cells ps pv c k a sq E hp) (hC:As c) (hk:k < 2 ^ 27) :
  CSem Tryz.prog 14 [.ptr pv 0] hp fun x h'=>x = .tup [.int .i64 (Dy a 7 c).1,.int .i64 (Dy a 7 c).2]∧h'=hp:=A7n (H.vol hC hk) H.gv H.at_ H.lp
theorem Zy {p q nb:Nat} {cells:List AV} {ps:List Nat} {h:Heap} {E:Nat→Prop} (hC:As c) (hs:c.k+c.m≤7∧c.st≤6) (hlp:h.lp=none) (A:At (ArrI p q nb cells ps (Kf c)) E h) :
  CSem Tryz.prog 29 [.ptr p 0,CfA c,.int .i64 7] h fun x h'=> ∃ pv,x = .tup [.ptr pv 0,.int .i64 0]∧LawV p q nb cells ps pv c 100 (Cj (Kf c) c 7).ar 0 E h'∧Fr' E h h':=by
 have h0:=Bk hC
 obtain ⟨m1,m2,V,lf,hl,hal⟩:=VS.make hC
 have Q0:=Xd hC hs.1
 have Q1:=Ajr Q0 7 c
 have hd0:(Kf c).disks.length=(c.k+c.m).toNat:=by unfold Kf Cm;simp
 have hb1:0+((Kf c).disks.length+c.st.toNat * (Kf c).disks.length)≤100:=by
  rw [hd0]
  have:c.st.toNat * (c.k+c.m).toNat≤6 * 7:=Nat.mul_le_mul (by omega) (by omega)
  omega
 refine (Ac0 (id:=7) (c:=c) Q0 (by decide) A hlp).mono ?_
 rintro x3 H3 ⟨K3,_,_,hs3⟩
 obtain ⟨pv,rfl,hpv,gv3,A3⟩:=hs3 c 0 m1
 have er:(Cj (Kf c) c 7).er=0:=m2
 refine ⟨pv,by rw [er],⟨gv3,A3.mono fun x hx=>hx.symm,K3.lp.trans hlp,Q1.mono hb1,hl,fun x hx=> ?_⟩,fun x hx=>K3.get x hx⟩
 have:=A.lt hx
 omega
end
def TxA (v:AV) (ts:List Txt) (h:Heap):Prop:=v=SL ts∨∃ b,v = .sl b 0 ts.length ts.length 1∧h.get b=some (ts.map S)
def MadeQ (c:Cfg) (ts:List Txt) (h:Heap) (x:AV) (h':Heap):Prop:= ∃ p q nb cells ps pv,x = .tup [.ptr p 0,.ptr pv 0]∧LawV p q nb cells ps pv c 0 (Ga c ts ts.length).1 (Ga c ts ts.length).2 (fun b=>b < h.next) h'∧Fr' (fun b=>b < h.next) h h'
structure MadeI (tv:AV) (p q nb:Nat) (cells:List AV) (ps:List Nat) (pv:Nat) (c:Cfg) (ts:List Txt) (E:Nat→Prop) (h0:Heap) (i:Nat) (r:Regs) (hp:Heap):Prop where
 le:i≤ts.length
 r1:rg r 1=tv
 r6:rg r 6 = .ptr p 0
 r8:rg r 8 = .ptr pv 0
 r10:rg r 10 = .int .i64 i
 H:LawV p q nb cells ps pv c 0 (Ga c ts i).1 (Ga c ts i).2 E hp
 F:Fr' E h0 hp
theorem Xe {c:Cfg} (hc:As c) (hsm:c.k+c.m≤7∧c.st≤6) {ts:List Txt} {tv:AV} (hts:ts.length≤6) (h:Heap) (hT:TxA tv ts h) (hlp:h.lp=none):CSem Tryz.prog 7 [CfA c,tv] h (MadeQ c ts h):=by
 refine CSem.body hm Tryz.func7 rfl (by kernel_rfl) (by kernel_rfl) (by simp [Tryz.ntmps7]) ?_
 have haggC:aggT Tryz.prog 23=some true:=by kernel_rfl
 have hzC:szT Tryz.prog 23=some 5:=by kernel_rfl
 have hcC:(CfA c).cells=[.int .i64 c.k,.int .i64 c.m,.int .i64 c.sh,.int .i64 c.st,.int .i64 c.sl]:=rfl
 have h1:=hc.1.1
 have h2:=hc.1.2.1
 have h3:=hc.1.2.2
 have h4:=hc.2.2.1
 have h5:=hc.2.2.2.1
 have h6:=hc.2.2.2.2.1
 have h7:=hc.2.2.2.2.2
 have h0:0≤c.k * c.sh:=Int.mul_nonneg (by omega) (by omega)
 have hcd:C3 c=c.k+c.m:=by rw [C3,if_pos hc]
 refine Eg (fun r1 h1=>rg r1 1=tv∧rg r1 2 = .ptr h.next 0∧h1=h.alloc [.int .i64 c.k,.int .i64 c.m,.int .i64 c.sh,.int .i64 c.st,.int .i64 c.sl]) ?_ (by simp [hcC])
 rintro r1 _ ⟨r1t,r1',rfl⟩
 have e0:(h.alloc [.int .i64 c.k,.int .i64 c.m,.int .i64 c.sh,.int .i64 c.st,.int .i64 c.sl]).get h.next=some [.int .i64 c.k,.int .i64 c.m,.int .i64 c.sh,.int .i64 c.st,.int .i64 c.sl]:=Heap.A9 _ _
 have E0:Ext h (h.alloc [.int .i64 c.k,.int .i64 c.m,.int .i64 c.sh,.int .i64 c.st,.int .i64 c.sl]):=(Ext.refl h).alloc _
 generalize h.alloc [.int .i64 c.k,.int .i64 c.m,.int .i64 c.sh,.int .i64 c.st,.int .i64 c.sl]=H at e0 E0 ⊢
 rw [C8]
 have hN:((c.k+c.m).toNat:Int)=c.k+c.m:=by omega
 have hnew:∀ h1:Heap,CSem Tryz.prog 25 [.int .i64 (c.k+c.m),.int .i64 (1+c.sl+c.st),.int .i64 (c.k * c.sh+42)] h1 fun x h'=> ∃ p,x = .tup [.ptr p 0,.int .i64 0]∧At (ArrA p (U4 c)) (fun b=>b < h1.next) h'∧Ext h1 h':=fun h1=>by
  have:=A4k (N:=(c.k+c.m).toNat) (n:=1+c.sl+c.st) (z:=c.k * c.sh+42) (by omega) (by omega) ⟨by omega,by omega,by omega,by omega⟩ h1
  rw [hN] at this
  exact this
 generalize hna:U4 c=na at hnew
 refine Gf (fun L r h'=>FrH na H H (L 6) (L 7) (L 8) (L 10) (rg r 18) (rg r 11) (rg r 19) (rg r 6) h') (FrV c) (by kernel_rfl) ⟨fun _=>rfl,fun h=>by cases h⟩ ?_ ?_
 ·intro L r2 H1 hH cl hr
  have q1:rg r2 2 = .ptr h.next 0:=(Db hr (by kernel_rfl)).trans r1'
  have eH:L 6=false→H1=H:=fun h6=>hH.1 h6
  refine ⟨?_,?_,?_,?_,?_,?_,?_,?_,?_,?_,?_,?_,trivial⟩
  all_goals (intro hL hd;simp [DepL,VL,FrV,Region.binds] at hd)
  ·have h6:=cl 6 1 (by kernel_rfl) (cl 1 0 (by kernel_rfl) hL)
   rw [eH h6] at hH ⊢
   simp [q1,e0,Ab haggC,hzC,takeN,FrV,CfA]
   exact ⟨_,rfl,rfl,hH⟩
  ·have h6:=cl 6 1 (by kernel_rfl) hL
   rw [eH h6] at hH ⊢
   simp [hd]
   refine ((Uu c).call (k:=2) (by simp [CfA,snap,mapL])).use ?_
   simp [FrV]
   exact ⟨_,rfl,rfl,hH⟩
  ·have h6:=cl 6 3 (by kernel_rfl) (cl 3 2 (by kernel_rfl) hL)
   rw [eH h6] at hH ⊢
   simp [q1,e0,Ab haggC,hzC,takeN,FrV,CfA]
   exact ⟨_,rfl,rfl,hH⟩
  ·have h6:=cl 6 3 (by kernel_rfl) hL
   rw [eH h6] at hH ⊢
   simp [hd]
   refine ((Ly hc).call (k:=2) (by simp [CfA,snap,mapL])).use ?_
   simp [FrV]
   exact ⟨_,rfl,rfl,hH⟩
  ·have h6:=cl 6 5 (by kernel_rfl) (cl 5 4 (by kernel_rfl) hL)
   rw [eH h6] at hH ⊢
   simp [q1,e0,Ab haggC,hzC,takeN,FrV,CfA]
   exact ⟨_,rfl,rfl,hH⟩
  ·have h6:=cl 6 5 (by kernel_rfl) hL
   rw [eH h6] at hH ⊢
   simp [hd]
   refine ((Rk hc).call (k:=2) (by simp [CfA,snap,mapL])).use ?_
   simp [FrV]
   exact ⟨_,rfl,rfl,hH⟩
  ·have l6:L 6=false:=hL
   have h7:=cl 7 6 (by kernel_rfl) hL
   have h8:=cl 8 7 (by kernel_rfl) h7
   have h10:=cl 10 8 (by kernel_rfl) h8
   rw [eH l6]
   simp [hd,hcd]
   refine (hnew H).then ?_
   rintro _ h' ⟨p,rfl,A,E⟩
   simp [FrV,h7,h8,h10]
   have X:∀ v5 v13 v3,FrH na H H true false false false (.tup [.ptr p 0,.int .i64 0]) v5 v13 v3 h':=fun v5 v13 v3=>⟨fun h=>(by cases h),fun _=>⟨p,rfl,fun h=>(by cases h),fun h=>(by cases h),fun h=>(by cases h),A,E⟩⟩
   first|exact ⟨⟨_,rfl⟩,X _ _ _⟩|exact ⟨_,rfl,X _ _ _⟩
  ·have l6:L 6=true:=by simp [hd]
   rw [l6] at hH
   obtain ⟨p,h12,h5,h13,h3,A,E⟩:=hH.2 rfl
   simp [h12,l6]
   have X:FrH na H H true true (L 8) (L 10) (.tup [.ptr p 0,.int .i64 0]) (.tup [.ptr p 0,.int .i64 0]) (rg r2 19) (rg r2 6) H1:=⟨fun h=>(by cases h),fun _=>⟨p,rfl,fun _=>rfl,h13,h3,A,E⟩⟩
   first|exact ⟨⟨_,rfl⟩,trivial,X⟩|exact ⟨⟨_,rfl⟩,X⟩|exact ⟨_,rfl,trivial,X⟩|exact ⟨_,rfl,X⟩
  ·have l7:L 7=true:=by simp [hd]
   have l6:L 6=true:=by
    cases h6:L 6 with
    | true=>rfl
    | false=>have:=cl 7 6 (by kernel_rfl) h6;rw [l7] at this;cases this
   rw [l6] at hH
   obtain ⟨p,h12,h5,h13,h3,A,E⟩:=hH.2 rfl
   have h5:=h5 l7
   simp [h5,l6,h12,l7]
   have X:FrH na H H true true true (L 10) (.tup [.ptr p 0,.int .i64 0]) (.tup [.ptr p 0,.int .i64 0]) (.ptr p 0) (rg r2 6) H1:=⟨fun h=>(by cases h),fun _=>⟨p,rfl,fun _=>rfl,fun _=>rfl,h3,A,E⟩⟩
   first|exact ⟨⟨_,rfl⟩,trivial,X⟩|exact ⟨⟨_,rfl⟩,X⟩|exact ⟨_,rfl,trivial,X⟩|exact ⟨_,rfl,X⟩
  ·have l7:L 7=true:=by simp [hd]
   have l6:L 6=true:=by
    cases h6:L 6 with
    | true=>rfl
    | false=>have:=cl 7 6 (by kernel_rfl) h6;rw [l7] at this;cases this
   obtain ⟨p,h12,h5,h13,h3,A,E⟩:=hH.2 l6
   have h5:=h5 l7
   rw [h5] at hH
   simp [h5]
   first|exact ⟨⟨_,rfl⟩,trivial,hH⟩|exact ⟨⟨_,rfl⟩,hH⟩|exact ⟨_,rfl,trivial,hH⟩|exact ⟨_,rfl,hH⟩
  ·have l8:L 8=true:=by simp [hd]
   have l7:L 7=true:=by
    cases h7:L 7 with
    | true=>rfl
    | false=>have:=cl 8 7 (by kernel_rfl) h7;rw [l8] at this;cases this
   have l6:L 6=true:=by
    cases h6:L 6 with
    | true=>rfl
    | false=>have:=cl 7 6 (by kernel_rfl) h6;rw [l7] at this;cases this
   rw [l6] at hH
   obtain ⟨p,h12,h5,h13,h3,A,E⟩:=hH.2 rfl
   have h13:=h13 l8
   simp [h13,h12,l6,l7,l8]
   have X:FrH na H H true true true true (.tup [.ptr p 0,.int .i64 0]) (rg r2 11) (.ptr p 0) (.ptr p 0) H1:=⟨fun h=>(by cases h),fun _=>⟨p,rfl,fun _=>h5 l7,fun _=>rfl,fun _=>rfl,A,E⟩⟩
   first|exact ⟨⟨_,rfl⟩,trivial,X⟩|exact ⟨⟨_,rfl⟩,X⟩|exact ⟨_,rfl,trivial,X⟩|exact ⟨_,rfl,X⟩
  ·simp
   first|exact ⟨⟨_,rfl⟩,trivial,hH⟩|exact ⟨⟨_,rfl⟩,hH⟩|exact ⟨_,rfl,trivial,hH⟩|exact ⟨_,rfl,hH⟩
 ·intro L r2 H1 hall hH hr hA
  obtain ⟨p,_,_,_,h3,A,E⟩:=hH.2 (hall 6 (by decide))
  have q6:=h3 (hall 10 (by decide))
  have q1:rg r2 1=tv:=(hr 1 (by simp)).trans r1t
  have q2:rg r2 2 = .ptr h.next 0:=(hr 2 (by simp)).trans r1'
  subst hna
  have hfe:U4 c=Kf c:=rfl
  rw [hfe] at A
  obtain ⟨q,nb,cells,ps,A⟩:=A.arrI (Xd hc hsm.1).b.one
  have gc:=E.got e0
  have en:=E0.next
  simp [q6,q2,gc,Ab haggC,hzC,takeN]
  refine (Zy hc hsm (E.lp.trans (E0.lp.trans hlp)) A).then ?_
  rintro _ H3 ⟨pv,rfl,LV,F3⟩
  obtain ⟨W0,_,_⟩:=Jp hc ts 0 (by omega)
  simp
  refine Am (MadeI tv p q nb cells ps pv c ts (fun b=>b < h.next) h) (ts.length - ·) ?_ 0 ?_
  rotate_left
  ·exact ⟨by omega,by simpa using q1,by simpa using q6,by simp,by simp,(LV.less (fun b hb=>by omega)).mono (LV.q.qt W0.v.qt),fun x hx=>(F3 x (by omega)).trans ((E.get x (by omega)).trans (E0.get x hx))⟩
  clear W0 LV F3 q1 q2 q6 gc A E e0 E0 hnew hH hA
  rintro i r hp ⟨le,s1,s6,s8,s10,LH,F⟩
  rcases Nat.lt_or_eq_of_le le with hlt|heq
  ·have hlt':(i:Int) < ts.length:=by omega
   have hw1:IntKind.i64.wrap ((i:Int)+1)=(i:Int)+1:=wrap64 (by omega) (by omega)
   obtain ⟨W,s0,sl⟩:=Jp hc ts i (by omega)
   obtain ⟨W1,_,_⟩:=Jp hc ts (i+1) (by omega)
   have hti:ts[i]?.getD []=ts[i]:=by simp [hlt]
   simp only [Ga,hti] at W1
   rcases hT with hT|⟨b,hT,gb⟩
   ·rw [hT] at s1
    simp [s10,s1,s8,hlt',hlt]
    refine (LH.write hc (by decide) s0 (by omega) i ts[i]).then ?_
    rintro _ h2 ⟨rfl,L2,F2⟩
    simp [s10,hw1]
    exact ⟨i+1,by omega,by omega,by simpa [hT] using s1,by simpa using s6,by simpa using s8,by simp,by simp only [Ga,hti];exact L2.mono (L2.q.qt W1.v.qt),F.trans F2⟩
   ·rw [hT] at s1
    have gb':=(F b (Heap.Ah gb)).trans gb
    simp [s10,s1,s8,hlt',hlt,gb']
    refine (LH.write hc (by decide) s0 (by omega) i ts[i]).then ?_
    rintro _ h2 ⟨rfl,L2,F2⟩
    simp [s10,hw1]
    exact ⟨i+1,by omega,by omega,by simpa [hT] using s1,by simpa using s6,by simpa using s8,by simp,by simp only [Ga,hti];exact L2.mono (L2.q.qt W1.v.qt),F.trans F2⟩
  ·subst heq
   rcases hT with hT|⟨b,hT,gb⟩
   ·rw [hT] at s1
    simp [s10,s1,s8,s6]
    exact ⟨p,q,nb,cells,ps,pv,rfl,LH,F⟩
   ·rw [hT] at s1
    simp [s10,s1,s8,s6]
    exact ⟨p,q,nb,cells,ps,pv,rfl,LH,F⟩
theorem Xf {c:Cfg} (hc:As c) (hsm:c.k+c.m≤7∧c.st≤6) {ts:List Txt} {tv:AV} (hts:ts.length≤6) (h:Heap) (hT:TxA tv ts h) (hlp:h.lp=none):CSem Tryz.prog 16 [CfA c,tv] h (MadeQ c ts h):=by
 refine CSem.body hm Tryz.func16 rfl (by kernel_rfl) (by kernel_rfl) (by simp [Tryz.ntmps16]) ?_
 have haggC:aggT Tryz.prog 23=some true:=by kernel_rfl
 have hzC:szT Tryz.prog 23=some 5:=by kernel_rfl
 have hcC:(CfA c).cells=[.int .i64 c.k,.int .i64 c.m,.int .i64 c.sh,.int .i64 c.st,.int .i64 c.sl]:=rfl
 have h1:=hc.1.1
 have h2:=hc.1.2.1
 have h3:=hc.1.2.2
 have h4:=hc.2.2.1
 have h5:=hc.2.2.2.1
 have h6:=hc.2.2.2.2.1
 have h7:=hc.2.2.2.2.2
 have h0:0≤c.k * c.sh:=Int.mul_nonneg (by omega) (by omega)
 have hcd:C3 c=c.k+c.m:=by rw [C3,if_pos hc]
 refine Eg (fun r1 h1=>rg r1 1=tv∧rg r1 2 = .ptr h.next 0∧h1=h.alloc [.int .i64 c.k,.int .i64 c.m,.int .i64 c.sh,.int .i64 c.st,.int .i64 c.sl]) ?_ (by simp [hcC])
 rintro r1 _ ⟨r1t,r1',rfl⟩
 have e0:(h.alloc [.int .i64 c.k,.int .i64 c.m,.int .i64 c.sh,.int .i64 c.st,.int .i64 c.sl]).get h.next=some [.int .i64 c.k,.int .i64 c.m,.int .i64 c.sh,.int .i64 c.st,.int .i64 c.sl]:=Heap.A9 _ _
 have E0:Ext h (h.alloc [.int .i64 c.k,.int .i64 c.m,.int .i64 c.sh,.int .i64 c.st,.int .i64 c.sl]):=(Ext.refl h).alloc _
 generalize h.alloc [.int .i64 c.k,.int .i64 c.m,.int .i64 c.sh,.int .i64 c.st,.int .i64 c.sl]=H at e0 E0 ⊢
 rw [C8]
 have hN:((c.k+c.m).toNat:Int)=c.k+c.m:=by omega
 have hnew:∀ h1:Heap,CSem Tryz.prog 25 [.int .i64 (c.k+c.m),.int .i64 (1+c.sl+c.st),.int .i64 (c.k * c.sh+42)] h1 fun x h'=> ∃ p,x = .tup [.ptr p 0,.int .i64 0]∧At (ArrA p (U4 c)) (fun b=>b < h1.next) h'∧Ext h1 h':=fun h1=>by
  have:=A4k (N:=(c.k+c.m).toNat) (n:=1+c.sl+c.st) (z:=c.k * c.sh+42) (by omega) (by omega) ⟨by omega,by omega,by omega,by omega⟩ h1
  rw [hN] at this
  exact this
 generalize hna:U4 c=na at hnew
 refine Gf (fun L r h'=>FrH na H H (L 6) (L 7) (L 8) (L 10) (rg r 18) (rg r 11) (rg r 19) (rg r 6) h') (FrV c) (by kernel_rfl) ⟨fun _=>rfl,fun h=>by cases h⟩ ?_ ?_
 ·intro L r2 H1 hH cl hr
  have q1:rg r2 2 = .ptr h.next 0:=(Db hr (by kernel_rfl)).trans r1'
  have eH:L 6=false→H1=H:=fun h6=>hH.1 h6
  refine ⟨?_,?_,?_,?_,?_,?_,?_,?_,?_,?_,?_,?_,trivial⟩
  all_goals (intro hL hd;simp [DepL,VL,FrV,Region.binds] at hd)
  ·have h6:=cl 6 1 (by kernel_rfl) (cl 1 0 (by kernel_rfl) hL)
   rw [eH h6] at hH ⊢
   simp [q1,e0,Ab haggC,hzC,takeN,FrV,CfA]
   exact ⟨_,rfl,rfl,hH⟩
  ·have h6:=cl 6 1 (by kernel_rfl) hL
   rw [eH h6] at hH ⊢
   simp [hd]
   refine ((Uu c).call (k:=2) (by simp [CfA,snap,mapL])).use ?_
   simp [FrV]
   exact ⟨_,rfl,rfl,hH⟩
  ·have h6:=cl 6 3 (by kernel_rfl) (cl 3 2 (by kernel_rfl) hL)
   rw [eH h6] at hH ⊢
   simp [q1,e0,Ab haggC,hzC,takeN,FrV,CfA]
   exact ⟨_,rfl,rfl,hH⟩
  ·have h6:=cl 6 3 (by kernel_rfl) hL
   rw [eH h6] at hH ⊢
   simp [hd]
   refine ((Ly hc).call (k:=2) (by simp [CfA,snap,mapL])).use ?_
   simp [FrV]
   exact ⟨_,rfl,rfl,hH⟩
  ·have h6:=cl 6 5 (by kernel_rfl) (cl 5 4 (by kernel_rfl) hL)
   rw [eH h6] at hH ⊢
   simp [q1,e0,Ab haggC,hzC,takeN,FrV,CfA]
   exact ⟨_,rfl,rfl,hH⟩
  ·have h6:=cl 6 5 (by kernel_rfl) hL
   rw [eH h6] at hH ⊢
   simp [hd]
   refine ((Rk hc).call (k:=2) (by simp [CfA,snap,mapL])).use ?_
   simp [FrV]
   exact ⟨_,rfl,rfl,hH⟩
  ·have l6:L 6=false:=hL
   have h7:=cl 7 6 (by kernel_rfl) hL
   have h8:=cl 8 7 (by kernel_rfl) h7
   have h10:=cl 10 8 (by kernel_rfl) h8
   rw [eH l6]
   simp [hd,hcd]
   refine (hnew H).then ?_
   rintro _ h' ⟨p,rfl,A,E⟩
   simp [FrV,h7,h8,h10]
   have X:∀ v5 v13 v3,FrH na H H true false false false (.tup [.ptr p 0,.int .i64 0]) v5 v13 v3 h':=fun v5 v13 v3=>⟨fun h=>(by cases h),fun _=>⟨p,rfl,fun h=>(by cases h),fun h=>(by cases h),fun h=>(by cases h),A,E⟩⟩
   first|exact ⟨⟨_,rfl⟩,X _ _ _⟩|exact ⟨_,rfl,X _ _ _⟩
  ·have l6:L 6=true:=by simp [hd]
   rw [l6] at hH
   obtain ⟨p,h12,h5,h13,h3,A,E⟩:=hH.2 rfl
   simp [h12,l6]
   have X:FrH na H H true true (L 8) (L 10) (.tup [.ptr p 0,.int .i64 0]) (.tup [.ptr p 0,.int .i64 0]) (rg r2 19) (rg r2 6) H1:=⟨fun h=>(by cases h),fun _=>⟨p,rfl,fun _=>rfl,h13,h3,A,E⟩⟩
   first|exact ⟨⟨_,rfl⟩,trivial,X⟩|exact ⟨⟨_,rfl⟩,X⟩|exact ⟨_,rfl,trivial,X⟩|exact ⟨_,rfl,X⟩
  ·have l7:L 7=true:=by simp [hd]
   have l6:L 6=true:=by
    cases h6:L 6 with
    | true=>rfl
    | false=>have:=cl 7 6 (by kernel_rfl) h6;rw [l7] at this;cases this
   rw [l6] at hH
   obtain ⟨p,h12,h5,h13,h3,A,E⟩:=hH.2 rfl
   have h5:=h5 l7
   simp [h5,l6,h12,l7]
   have X:FrH na H H true true true (L 10) (.tup [.ptr p 0,.int .i64 0]) (.tup [.ptr p 0,.int .i64 0]) (.ptr p 0) (rg r2 6) H1:=⟨fun h=>(by cases h),fun _=>⟨p,rfl,fun _=>rfl,fun _=>rfl,h3,A,E⟩⟩
   first|exact ⟨⟨_,rfl⟩,trivial,X⟩|exact ⟨⟨_,rfl⟩,X⟩|exact ⟨_,rfl,trivial,X⟩|exact ⟨_,rfl,X⟩
  ·have l7:L 7=true:=by simp [hd]
   have l6:L 6=true:=by
    cases h6:L 6 with
    | true=>rfl
    | false=>have:=cl 7 6 (by kernel_rfl) h6;rw [l7] at this;cases this
   obtain ⟨p,h12,h5,h13,h3,A,E⟩:=hH.2 l6
   have h5:=h5 l7
   rw [h5] at hH
   simp [h5]
   first|exact ⟨⟨_,rfl⟩,trivial,hH⟩|exact ⟨⟨_,rfl⟩,hH⟩|exact ⟨_,rfl,trivial,hH⟩|exact ⟨_,rfl,hH⟩
  ·have l8:L 8=true:=by simp [hd]
   have l7:L 7=true:=by
    cases h7:L 7 with
    | true=>rfl
    | false=>have:=cl 8 7 (by kernel_rfl) h7;rw [l8] at this;cases this
   have l6:L 6=true:=by
    cases h6:L 6 with
    | true=>rfl
    | false=>have:=cl 7 6 (by kernel_rfl) h6;rw [l7] at this;cases this
   rw [l6] at hH
   obtain ⟨p,h12,h5,h13,h3,A,E⟩:=hH.2 rfl
   have h13:=h13 l8
   simp [h13,h12,l6,l7,l8]
   have X:FrH na H H true true true true (.tup [.ptr p 0,.int .i64 0]) (rg r2 11) (.ptr p 0) (.ptr p 0) H1:=⟨fun h=>(by cases h),fun _=>⟨p,rfl,fun _=>h5 l7,fun _=>rfl,fun _=>rfl,A,E⟩⟩
   first|exact ⟨⟨_,rfl⟩,trivial,X⟩|exact ⟨⟨_,rfl⟩,X⟩|exact ⟨_,rfl,trivial,X⟩|exact ⟨_,rfl,X⟩
  ·simp
   first|exact ⟨⟨_,rfl⟩,trivial,hH⟩|exact ⟨⟨_,rfl⟩,hH⟩|exact ⟨_,rfl,trivial,hH⟩|exact ⟨_,rfl,hH⟩
 ·intro L r2 H1 hall hH hr hA
  obtain ⟨p,_,_,_,h3,A,E⟩:=hH.2 (hall 6 (by decide))
  have q6:=h3 (hall 10 (by decide))
  have q1:rg r2 1=tv:=(hr 1 (by simp)).trans r1t
  have q2:rg r2 2 = .ptr h.next 0:=(hr 2 (by simp)).trans r1'
  subst hna
  have hfe:U4 c=Kf c:=rfl
  rw [hfe] at A
  obtain ⟨q,nb,cells,ps,A⟩:=A.arrI (Xd hc hsm.1).b.one
  have gc:=E.got e0
  have en:=E0.next
  simp [q6,q2,gc,Ab haggC,hzC,takeN]
  refine (Zy hc hsm (E.lp.trans (E0.lp.trans hlp)) A).then ?_
  rintro _ H3 ⟨pv,rfl,LV,F3⟩
  obtain ⟨W0,_,_⟩:=Jp hc ts 0 (by omega)
  simp
  refine Am (MadeI tv p q nb cells ps pv c ts (fun b=>b < h.next) h) (ts.length - ·) ?_ 0 ?_
  rotate_left
  ·exact ⟨by omega,by simpa using q1,by simpa using q6,by simp,by simp,(LV.less (fun b hb=>by omega)).mono (LV.q.qt W0.v.qt),fun x hx=>(F3 x (by omega)).trans ((E.get x (by omega)).trans (E0.get x hx))⟩
  clear W0 LV F3 q1 q2 q6 gc A E e0 E0 hnew hH hA
  rintro i r hp ⟨le,s1,s6,s8,s10,LH,F⟩
  rcases Nat.lt_or_eq_of_le le with hlt|heq
  ·have hlt':(i:Int) < ts.length:=by omega
   have hw1:IntKind.i64.wrap ((i:Int)+1)=(i:Int)+1:=wrap64 (by omega) (by omega)
   obtain ⟨W,s0,sl⟩:=Jp hc ts i (by omega)
   obtain ⟨W1,_,_⟩:=Jp hc ts (i+1) (by omega)
   have hti:ts[i]?.getD []=ts[i]:=by simp [hlt]
   simp only [Ga,hti] at W1
   rcases hT with hT|⟨b,hT,gb⟩
   ·rw [hT] at s1
    simp [s10,s1,s8,hlt',hlt]
    refine (LH.write hc (by decide) s0 (by omega) i ts[i]).then ?_
    rintro _ h2 ⟨rfl,L2,F2⟩
    simp [s10,hw1]
    exact ⟨i+1,by omega,by omega,by simpa [hT] using s1,by simpa using s6,by simpa using s8,by simp,by simp only [Ga,hti];exact L2.mono (L2.q.qt W1.v.qt),F.trans F2⟩
   ·rw [hT] at s1
    have gb':=(F b (Heap.Ah gb)).trans gb
    simp [s10,s1,s8,hlt',hlt,gb']
    refine (LH.write hc (by decide) s0 (by omega) i ts[i]).then ?_
    rintro _ h2 ⟨rfl,L2,F2⟩
    simp [s10,hw1]
    exact ⟨i+1,by omega,by omega,by simpa [hT] using s1,by simpa using s6,by simpa using s8,by simp,by simp only [Ga,hti];exact L2.mono (L2.q.qt W1.v.qt),F.trans F2⟩
  ·subst heq
   rcases hT with hT|⟨b,hT,gb⟩
   ·rw [hT] at s1
    simp [s10,s1,s8,s6]
    exact ⟨p,q,nb,cells,ps,pv,rfl,LH,F⟩
   ·rw [hT] at s1
    simp [s10,s1,s8,s6]
    exact ⟨p,q,nb,cells,ps,pv,rfl,LH,F⟩
end Go.Proofs.YtpabfpccpbakfaaGreatDoor.X
