/-
  An array and a volume beside other blocks; law17.made, law18.made.
-/
import Derived.Test.YtmbndhciflilbaaGreatDoorV76
namespace Go.Proofs.YtmbndhciflilbaaGreatDoor.X
open Go.RowKit F
set_option maxRecDepth 100000
set_option linter.unusedSimpArgs false
set_option linter.unusedVariables false
def Fr' (E:Nat→Prop) (h h':Heap):Prop:= ∀ x,E x→h'.get x=h.get x
theorem Fr'.trans {E:Nat→Prop} {h h1 h2:Heap} (a:Fr' E h h1) (b:Fr' E h1 h2):Fr' E h h2:=fun x hx=>(b x hx).trans (a x hx)
theorem Fr'.refl (E:Nat→Prop) (h:Heap):Fr' E h h:=fun _ _=>rfl
theorem Fr'.less {E E':Nat→Prop} {h h':Heap} (a:Fr' E h h') (k:∀ x,E' x→E x):Fr' E' h h':=fun x hx=>a x (k x hx)
structure LawV (p q nb:Nat) (cells:List AV) (ps:List Nat) (pv:Nat) (c:Cfg) (k:Nat) (a:Arr) (sq:Int) (E:Nat→Prop) (hp:Heap):Prop where
 gv:hp.get pv=some (volC p c 7 sq)
 at_:At (ArrI p q nb cells ps a) (fun x=>x=pv∨E x) hp
 lp:hp.lp=none
 q:ArrQ k a
 len:(a.disks.length:Int)=c.k+c.m
 ne:∀ x,E x→x≠pv
section
variable {p q nb:Nat} {cells:List AV} {ps:List Nat} {pv:Nat} {c:Cfg} {k:Nat} {a:Arr} {sq:Int} {E:Nat→Prop} {hp:Heap} {L:List Txt}
theorem LawV.lt (H:LawV p q nb cells ps pv c k a sq E hp) {b:Nat} (hb:E b):b < hp.next:=H.at_.lt (.inr hb)
theorem LawV.less (H:LawV p q nb cells ps pv c k a sq E hp) {E':Nat→Prop} (h:∀ x,E' x→E x):LawV p q nb cells ps pv c k a sq E' hp :=
 ⟨H.gv,H.at_.mono fun x hx=>hx.imp_right (h x),H.lp,H.q,H.len,fun x hx=>H.ne x (h x hx)⟩
theorem LawV.alloc (H:LawV p q nb cells ps pv c k a sq E hp) (cs:List AV):LawV p q nb cells ps pv c k a sq (fun x=>E x∨x=hp.next) (hp.alloc cs):=by
 refine ⟨Heap.Ag H.gv,(H.at_.alloc (ArrI.loc p q nb cells ps a) cs).mono fun x hx=> ?_,H.lp,H.q,H.len,fun x hx=> ?_⟩
 ·rcases hx with hx|hx|hx
  ·exact .inl (.inl hx)
  ·exact .inl (.inr hx)
  ·exact .inr hx
 ·rcases hx with hx|rfl
  ·exact H.ne x hx
  ·have h1:=Heap.Ah H.gv
   omega
theorem LawV.put (H:LawV p q nb cells ps pv c k a sq E hp) {b:Nat} (hb:E b) (cs:List AV) {zs:List AV} (hg:hp.get b=some zs):LawV p q nb cells ps pv c k a sq E (hp.put b cs):=by
 refine ⟨?_,H.at_.put (ArrI.loc p q nb cells ps a) cs (.inr hb),H.lp,H.q,H.len,H.ne⟩
 rw [Heap.Aq hg (Ne.symm (H.ne b hb))];exact H.gv
theorem LawV.box (H:LawV p q nb cells ps pv c k a sq E hp) (cs ys:List AV):LawV p q nb cells ps pv c k a sq (fun x=>E x∨x=hp.next) ((hp.alloc cs).put hp.next ys)∧((hp.alloc cs).put hp.next ys).get hp.next=some ys∧Fr' E hp ((hp.alloc cs).put hp.next ys):=by
 have hg:(hp.alloc cs).get hp.next=some cs:=Heap.A9 _ _
 refine ⟨(H.alloc cs).put (.inr rfl) ys hg,Heap.Ak hg,fun x hx=> ?_⟩
 have:=H.at_.lt (.inr hx)
 rw [Heap.Aq hg ω,Heap.Aa,if_neg ω]
theorem LawV.box1 (H:LawV p q nb cells ps pv c k a sq E hp) (cs:List AV):LawV p q nb cells ps pv c k a sq (fun x=>E x∨x=hp.next) (hp.alloc cs)∧(hp.alloc cs).get hp.next=some cs∧Fr' E hp (hp.alloc cs):=by
 refine ⟨H.alloc cs,Heap.A9 _ _,fun x hx=> ?_⟩
 have:=H.at_.lt (.inr hx)
 rw [Heap.Aa,if_neg ω]
theorem LawV.ext (H:LawV p q nb cells ps pv c k a sq E hp) {h':Heap} (X:Ext hp h'):LawV p q nb cells ps pv c k a sq (fun x=>E x∨(hp.next≤x∧x < h'.next)) h':=by
 refine ⟨X.got H.gv,(H.at_.ext2 (ArrI.loc p q nb cells ps a) X).mono fun x hx=> ?_,X.lp.trans H.lp,H.q,H.len,fun x hx=> ?_⟩
 ·rcases hx with hx|hx|hx
  ·exact .inl (.inl hx)
  ·exact .inl (.inr hx)
  ·exact .inr hx
 ·rcases hx with hx|hx
  ·exact H.ne x hx
  ·have h1:=Heap.Ah H.gv
   omega
theorem LawV.vol (H:LawV p q nb cells ps pv c k a sq E hp) (hC:Ax c) (hk:k < 2 ^ 27):VolB k a c:=⟨hC,H.q,ω⟩
theorem LawV.mono (H:LawV p q nb cells ps pv c k a sq E hp) {k':Nat} (hk:ArrQ k' a):LawV p q nb cells ps pv c k' a sq E hp:=⟨H.gv,H.at_,H.lp,hk,H.len,H.ne⟩
theorem LawV.turn (H:LawV p q nb cells ps pv c k a sq E hp) {h':Heap} {a':Arr} {k':Nat} (K:Keep (fun x=>x=pv∨E x) hp h') (A:At (ArrI p q nb cells ps a') (fun x=>x=pv∨E x) h') (Q:ArrQ k' a') (hl:a'.disks.length=a.disks.length) :
  LawV p q nb cells ps pv c k' a' sq E h'∧Fr' E hp h' :=
 ⟨⟨K.got (.inl rfl) H.gv,A,K.lp.trans H.lp,Q,by rw [hl];exact H.len,H.ne⟩,fun x hx=>K.get x (.inr hx)⟩
theorem LawV.write (H:LawV p q nb cells ps pv c k a sq E hp) (hC:Ax c) (hk:k < 2 ^ 27) (hs0:0≤sq) (hs1:sq < 2 ^ 61) (n:Int) (t:Txt) :
  CSem Tryz.prog 59 [.ptr pv 0,.int .i64 n,S t] hp fun x h'=>x = .int .i64 (Am a 7 c sq n t).2.2∧LawV p q nb cells ps pv c (k+2 * a.disks.length) (Am a 7 c sq n t).1 (Am a 7 c sq n t).2.1 E h'∧Fr' E hp h':=by
 have h0:=Bd hC
 refine (Wy (H.vol hC hk) H.len hk ν H.gv H.at_ (.inl rfl) hs0 hs1 H.lp n t).mono ?_
 rintro x h' ⟨rfl,A,K,gv⟩
 have Q:=A3k H.q 7 c sq n t
 have hal:=D5 a (c.m+1).toNat
 have hl:=H.len
 refine ⟨rfl,⟨gv,A,K.lp.trans H.lp,Q.mono ω,by rw [Wq];exact hl,H.ne⟩,fun x hx=>K.get x ⟨.inr hx,H.ne x hx⟩⟩
theorem LawV.read (H:LawV p q nb cells ps pv c k a sq E hp) (hC:Ax c) (hk:k < 2 ^ 27) (n:Int) :
  CSem Tryz.prog 20 [.ptr pv 0,.int .i64 n] hp fun x h'=>x = .tup [S (Gc a 7 c n).1,.int .i64 (Gc a 7 c n).2]∧h'=hp:=Aap (H.vol hC hk) H.gv H.at_ H.lp n
theorem Aaq {p q nb:Nat} {cells:List AV} {ps:List Nat} {h:Heap} {E:Nat→Prop} (hC:Ax c) (hs:c.k+c.m≤7∧c.st≤6) (hlp:h.lp=none) (A:At (ArrI p q nb cells ps (Le c)) E h) :
  CSem Tryz.prog 31 [.ptr p 0,CfA c,.int .i64 7] h fun x h'=> ∃ pv,x = .tup [.ptr pv 0,.int .i64 0]∧LawV p q nb cells ps pv c 100 (Cf (Le c) c 7).ar 0 E h'∧Fr' E h h':=by
 have h0:=Bd hC
 obtain ⟨m1,m2,V,lf,hl,hal⟩:=VS.make hC
 have Q0:=A3s hC hs.1
 have Q1:=Aha Q0 7 c
 have hd0:(Le c).disks.length=(c.k+c.m).toNat:=by unfold Le Ck;simp
 have hb1:0+((Le c).disks.length+c.st.toNat * (Le c).disks.length)≤100:=by
  rw [hd0]
  have:c.st.toNat * (c.k+c.m).toNat≤6 * 7:=Nat.mul_le_mul ω ω
  omega
 refine (Aar (id:=7) (c:=c) Q0 ν A hlp).mono ?_
 rintro x3 H3 ⟨K3,_,_,hs3⟩
 obtain ⟨pv,rfl,hpv,gv3,A3⟩:=hs3 c 0 m1
 have er:(Cf (Le c) c 7).er=0:=m2
 refine ⟨pv,by rw [er],⟨gv3,A3.mono fun x hx=>hx.symm,K3.lp.trans hlp,Q1.mono hb1,hl,fun x hx=> ?_⟩,fun x hx=>K3.get x hx⟩
 have:=A.lt hx
 omega
end
def MadeQ (c:Cfg) (ts:List Txt) (h:Heap) (x:AV) (h':Heap):Prop:= ∃ p q nb cells ps pv,x = .tup [.ptr p 0,.ptr pv 0]∧LawV p q nb cells ps pv c 0 (Gz c ts ts.length).1 (Gz c ts ts.length).2 (fun b=>b < h.next) h'∧Fr' (fun b=>b < h.next) h h'
structure MadeI (tv:AV) (p q nb:Nat) (cells:List AV) (ps:List Nat) (pv:Nat) (c:Cfg) (ts:List Txt) (E:Nat→Prop) (h0:Heap) (i:Nat) (r:Regs) (hp:Heap):Prop where
 le:i≤ts.length
 r1:rg r 1=tv
 r6:rg r 6 = .ptr p 0
 r8:rg r 8 = .ptr pv 0
 r10:rg r 10 = .int .i64 i
 H:LawV p q nb cells ps pv c 0 (Gz c ts i).1 (Gz c ts i).2 E hp
 F:Fr' E h0 hp
end Go.Proofs.YtmbndhciflilbaaGreatDoor.X
